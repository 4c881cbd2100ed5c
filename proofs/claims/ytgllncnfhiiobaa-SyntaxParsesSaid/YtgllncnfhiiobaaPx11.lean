-- PRINTED by print.py (a twelfth state) out of the translation. Not trusted: Lean checks it.
import Derived.Test.YtgllncnfhiiobaaPx0
import Derived.Test.YtgllncnfhiiobaaPx10
import Derived.Test.YtgllncnfhiiobaaSynSp
namespace Go.Proofs.Ytgllncnfhiiobaa.P
open Go.RowKit Go.Proofs.YtgllncnfhiiobaaW.PrintWords Go.Proofs.YtgllncnfhiiobaaW.PrintLast Go.Proofs.YtgllncnfhiiobaaW.PrintMore

set_option linter.unusedVariables false
set_option linter.unusedSimpArgs false

/-! ### primerref04_Literal: function 51 -/
mutual
def primerref04_Literal.l0 : Nat → ByteArray → Int → List Int → Int → Option (ByteArray × Int × Bool)
 | 0, _, _, _, _ => none
 | k + 1, x0, x7, x8, x9 => if x9 < (x0.size : Int) then (if 0 ≤ x9 then (primerref04_Literal.j1 k x0 x7 x8 x9 ((bt x0 x9) != x7)) else (none)) else (primerref04_Literal.j1 k x0 x7 x8 x9 false)
def primerref04_Literal.j1 : Nat → ByteArray → Int → List Int → Int → Bool → Option (ByteArray × Int × Bool)
 | 0, _, _, _, _, _ => none
 | k + 1, x0, x7, x8, x9, x28 => if x28 = true then (if 0 ≤ x9 then (if x9 < (x0.size : Int) then (if (bt x0 x9) < 32 then (primerref04_Literal.j2 k x0 x7 x8 x9 (bt x0 x9) true) else (primerref04_Literal.j2 k x0 x7 x8 x9 (bt x0 x9) (decide ((bt x0 x9) > 126)))) else (none)) else (none)) else (if x9 = (x0.size : Int) then (some ((⟨#[]⟩ : ByteArray), x9, false)) else (some (strOfNums x8, wrap64 (x9 + 1), true)))
def primerref04_Literal.j2 : Nat → ByteArray → Int → List Int → Int → Int → Bool → Option (ByteArray × Int × Bool)
 | 0, _, _, _, _, _, _ => none
 | k + 1, x0, x7, x8, x9, x10, x37 => if x37 = true then (some ((⟨#[]⟩ : ByteArray), x9, false)) else (if x10 = 92 then (if (wrap64 (x9 + 1)) = (x0.size : Int) then (some ((⟨#[]⟩ : ByteArray), wrap64 (x9 + 1), false)) else (if 0 ≤ (wrap64 (x9 + 1)) then (if (wrap64 (x9 + 1)) < (x0.size : Int) then (if (bt x0 (wrap64 (x9 + 1))) = 92 then (primerref04_Literal.j3 k x0 x7 x8 (wrap64 (x9 + 1)) (bt x0 (wrap64 (x9 + 1))) (bt x0 (wrap64 (x9 + 1))) ((bt x0 (wrap64 (x9 + 1))) == 92)) else (if (bt x0 (wrap64 (x9 + 1))) = 39 then (primerref04_Literal.j3 k x0 x7 x8 (wrap64 (x9 + 1)) (bt x0 (wrap64 (x9 + 1))) (bt x0 (wrap64 (x9 + 1))) ((bt x0 (wrap64 (x9 + 1))) == 39)) else (primerref04_Literal.j3 k x0 x7 x8 (wrap64 (x9 + 1)) (bt x0 (wrap64 (x9 + 1))) (bt x0 (wrap64 (x9 + 1))) ((bt x0 (wrap64 (x9 + 1))) == 34)))) else (none)) else (none))) else (if x8.length < 140737488355328 then (primerref04_Literal.l0 k x0 x7 (x8 ++ [x10]) (wrap64 (x9 + 1))) else (none)))
def primerref04_Literal.j3 : Nat → ByteArray → Int → List Int → Int → Int → Int → Bool → Option (ByteArray × Int × Bool)
 | 0, _, _, _, _, _, _, _ => none
 | k + 1, x0, x7, x8, x9, x10, x55, x57 => if x57 = true then (if x8.length < 140737488355328 then (primerref04_Literal.l0 k x0 x7 (x8 ++ [x10]) (wrap64 (x9 + 1))) else (none)) else (if x55 = 110 then (if x8.length < 140737488355328 then (primerref04_Literal.l0 k x0 x7 (x8 ++ [10]) (wrap64 (x9 + 1))) else (none)) else (if x55 = 116 then (if x8.length < 140737488355328 then (primerref04_Literal.l0 k x0 x7 (x8 ++ [9]) (wrap64 (x9 + 1))) else (none)) else (if x55 = 120 then (primerref04_Literal.l1 k x0 x7 x8 x9 0 0) else (some ((⟨#[]⟩ : ByteArray), x9, false)))))
def primerref04_Literal.l1 : Nat → ByteArray → Int → List Int → Int → Int → Int → Option (ByteArray × Int × Bool)
 | 0, _, _, _, _, _, _ => none
 | k + 1, x0, x7, x8, x9, x11, x12 => if x12 < 2 then (if (wrap64 (x9 + 1)) = (x0.size : Int) then (some ((⟨#[]⟩ : ByteArray), wrap64 (x9 + 1), false)) else (if 0 ≤ (wrap64 (x9 + 1)) then (if (wrap64 (x9 + 1)) < (x0.size : Int) then ((primerref04_hex.f k (bt x0 (wrap64 (x9 + 1)))).bind fun t296 => (if t296 < 0 then (some ((⟨#[]⟩ : ByteArray), wrap64 (x9 + 1), false)) else ((primerref04_hex.f k (bt x0 (wrap64 (x9 + 1)))).bind fun t297 => (primerref04_Literal.l1 k x0 x7 x8 (wrap64 (x9 + 1)) (wrap64 ((wrap64 (16 * x11)) + t297)) (wrap64 (x12 + 1)))))) else (none)) else (none))) else (if x8.length < 140737488355328 then (primerref04_Literal.l0 k x0 x7 (x8 ++ [(x11) % 256]) (wrap64 (x9 + 1))) else (none))
end
def primerref04_Literal.f (k : Nat) (a0 : ByteArray) (a1 : Int) : Option (ByteArray × Int × Bool) := if 0 ≤ a1 then (if a1 < (a0.size : Int) then (primerref04_Literal.l0 k a0 (bt a0 a1) ([] : List Int) (wrap64 (a1 + 1))) else (none)) else (none)
set_option maxHeartbeats 8000000 in
set_option maxRecDepth 100000 in
theorem primerref04_Literal.calls (k : Nat) (a0 : ByteArray) (a1 : Int) (r1 : ByteArray) (r2 : Int) (r3 : Bool) (w : World) (h : primerref04_Literal.f k a0 a1 = some (r1, r2, r3)) :
  Calls Try.prog 51 #[.string a0, .int .i64 a1] w fun e w' => e = .returned (.tuple #[.string r1, .int .i64 r2, .bool r3]) ∧ Below w.heap.size w w' := by
 have HB := Aside0.mk (Below.refl w.heap.size w)
 have H : (if 0 ≤ a1 then (if a1 < (a0.size : Int) then (primerref04_Literal.l0 k a0 (bt a0 a1) ([] : List Int) (wrap64 (a1 + 1))) else (none)) else (none)) = some (r1, r2, r3) := h
 clear h
 by_cases c3 : 0 ≤ a1
 ·rw [if_pos c3] at H
  have c3b0 : decide (0 ≤ a1) = true := decide_eq_true c3
  clear c3
  by_cases c4 : a1 < (a0.size : Int)
  ·rw [if_pos c4] at H
   have c4b0 : decide (a1 < (a0.size : Int)) = true := decide_eq_true c4
   clear c4
   have H' := Aside0.mk H
   clear H
   have p5 : 0 ≤ (a1 : Int) := of_decide_eq_true (by first | (with_reducible assumption) | assumption)
   have q5 : a1 < (a0.size : Int) := of_decide_eq_true (by first | (with_reducible assumption) | assumption)
   have hx5 := bt_at a0 a1
   replace p5 := eq_true p5
   replace q5 := eq_true q5
   go_enter Try.func51, Try.ntmps51
   go_wp2
   go_loopg [8, 9] k (fun kq v8 v9 w' => ∃ (x8_1 : List Int) (x9_1 : Int), v9 = .int .i64 x9_1 ∧ Aside0 (primerref04_Literal.l0 kq a0 (bt a0 a1) x8_1 x9_1 = some (r1, r2, r3)) ∧ Aside0 (kq ≤ k) ∧ Aside0 (Kd.R (Kd.int .u8) 5 w' w.heap.size (fun _ => True) v8 x8_1) ∧ Aside0 (Below w.heap.size w w'))
   case atStart => exact ⟨(([] : List Int)), (wrap64 (a1 + 1)), (by first | rfl | (simp; done) | (simp [*]; done)), H', ⟨Nat.le_refl _⟩, ⟨by first | exact Kd.R_nil _ _ _ _ _ | exact Kd.N_nil _ _ _ _ _ | exact Kd.V_nil _ _ _ _ _ | exact Kd.Q_nil _ _ _ _ _ | exact Kd.S_nil _ _ _ _ _⟩, ⟨by repeat (first | (with_reducible first | exact HB.out | apply below_alloc | apply pw_below_drewN | apply below_drew1) | exact HB.out)⟩⟩
   case round =>
    clear H'
    try clear p2
    try clear c3
    try clear c3b0
    try clear c4
    try clear c4b0
    try clear c5
    try clear p5
    try clear q5
    try clear hx5
    try clear p5
    try clear q5
    obtain ⟨x8_1, x9_1, rfl, HA, HK1, HO_8, HB⟩ := hrel
    cases gk with
    | zero => exact absurd HA.out (by simp [primerref04_Literal.l0])
    | succ k1 =>
     have H := HA.out
     clear HA
     simp only [primerref04_Literal.l0] at H
     have HC6 := Aside0.mk H
     clear H
     go_upto_region 4 with (fail)
     go_cut [28] (fun v28 wc => ∃ (kq : Nat) (x28_5 : Bool), v28 = .bool x28_5 ∧ Aside0 (primerref04_Literal.j1 kq a0 (bt a0 a1) x8_1 x9_1 x28_5 = some (r1, r2, r3)) ∧ Aside0 (kq ≤ k1) ∧ Aside0 (Kd.R (Kd.int .u8) 5 wc w.heap.size (fun _ => True) u8 x8_1) ∧ Aside0 (Below w.heap.size w wc))
     case first =>
      have H := HC6.out
      clear HC6
      by_cases c7 : x9_1 < (a0.size : Int)
      ·rw [if_pos c7] at H
       have c7b0 : decide (x9_1 < (a0.size : Int)) = true := decide_eq_true c7
       clear c7
       (first | rw [c7b0] | (simp only [i64_w, i32_w]; rw [c7b0]) | skip)
       by_cases c8 : 0 ≤ x9_1
       ·rw [if_pos c8] at H
        have c8b0 : decide (0 ≤ x9_1) = true := decide_eq_true c8
        clear c8
        have H' := Aside0.mk H
        clear H
        have p9 : 0 ≤ (x9_1 : Int) := of_decide_eq_true (by first | (with_reducible assumption) | assumption)
        have q9 : x9_1 < (a0.size : Int) := of_decide_eq_true (by first | (with_reducible assumption) | assumption)
        have hx9 := bt_at a0 x9_1
        replace p9 := eq_true p9
        replace q9 := eq_true q9
        go_wp2
        go_meet
        case rel => exact ⟨_, (((bt a0 x9_1) != (bt a0 a1))), (by first | rfl | (simp; done) | (simp [*]; done)), H', ⟨by have := HK1.out; first | omega | exact Nat.le_refl _⟩, ⟨by (with_reducible repeat (first | apply Kd.R_alloc | apply Kd.R_drewN | apply Kd.R_drew)); exact HO_8.out⟩, ⟨by repeat (first | (with_reducible first | exact HB.out | apply below_alloc | apply pw_below_drewN | apply below_drew1) | exact HB.out)⟩⟩
       ·rw [if_neg c8] at H
        exact absurd H (by simp)
      ·rw [if_neg c7] at H
       have c7b0 : decide (x9_1 < (a0.size : Int)) = false := decide_eq_false c7
       clear c7
       (first | rw [c7b0] | (simp only [i64_w, i32_w]; rw [c7b0]) | skip)
       have H' := Aside0.mk H
       clear H
       go_wp2
       go_meet
       case rel => exact ⟨_, (false), (by first | rfl | (simp; done) | (simp [*]; done)), H', ⟨by have := HK1.out; first | omega | exact Nat.le_refl _⟩, ⟨by (with_reducible repeat (first | apply Kd.R_alloc | apply Kd.R_drewN | apply Kd.R_drew)); exact HO_8.out⟩, ⟨by repeat (first | (with_reducible first | exact HB.out | apply below_alloc | apply pw_below_drewN | apply below_drew1) | exact HB.out)⟩⟩
     case rest =>
      clear HC6
      try clear p2
      try clear c3
      try clear c3b0
      try clear c4
      try clear c4b0
      try clear c5
      try clear p5
      try clear q5
      try clear hx5
      try clear p6
      try clear c7
      try clear c7b0
      try clear c8
      try clear c8b0
      try clear p9
      try clear q9
      try clear hx9
      try clear p2
      try clear p5
      try clear p9
      try clear q5
      try clear q9
      obtain ⟨kq, x28_5, rfl, HA, HJ5, HO_8, HB⟩ := hcut
      cases kq with
      | zero => exact absurd HA.out (by simp [primerref04_Literal.j1])
      | succ kj5 =>
       have H := HA.out
       clear HA
       simp only [primerref04_Literal.j1] at H
       by_cases c10 : x28_5 = true
       ·subst c10
        have H1 : (if 0 ≤ x9_1 then (if x9_1 < (a0.size : Int) then (if (bt a0 x9_1) < 32 then (primerref04_Literal.j2 kj5 a0 (bt a0 a1) x8_1 x9_1 (bt a0 x9_1) true) else (primerref04_Literal.j2 kj5 a0 (bt a0 a1) x8_1 x9_1 (bt a0 x9_1) (decide ((bt a0 x9_1) > 126)))) else (none)) else (none)) = some (r1, r2, r3) := by rw [if_pos rfl] at H; exact H
        clear H
        have H := H1
        clear H1
        by_cases c11 : 0 ≤ x9_1
        ·rw [if_pos c11] at H
         have c11b0 : decide (0 ≤ x9_1) = true := decide_eq_true c11
         clear c11
         by_cases c12 : x9_1 < (a0.size : Int)
         ·rw [if_pos c12] at H
          have c12b0 : decide (x9_1 < (a0.size : Int)) = true := decide_eq_true c12
          clear c12
          have HC14 := Aside0.mk H
          clear H
          have p13 : 0 ≤ (x9_1 : Int) := of_decide_eq_true (by first | (with_reducible assumption) | assumption)
          have q13 : x9_1 < (a0.size : Int) := of_decide_eq_true (by first | (with_reducible assumption) | assumption)
          have hx13 := bt_at a0 x9_1
          replace p13 := eq_true p13
          replace q13 := eq_true q13
          go_upto_region 6 with (fail)
          go_cut [37] (fun v37 wc => ∃ (kq : Nat) (x37_13 : Bool), v37 = .bool x37_13 ∧ Aside0 (primerref04_Literal.j2 kq a0 (bt a0 a1) x8_1 x9_1 (bt a0 x9_1) x37_13 = some (r1, r2, r3)) ∧ Aside0 (kq ≤ kj5) ∧ Aside0 (Kd.R (Kd.int .u8) 5 wc w.heap.size (fun _ => True) u8 x8_1) ∧ Aside0 (Below w.heap.size w wc))
          case first =>
           have H := HC14.out
           clear HC14
           by_cases c15 : (bt a0 x9_1) < 32
           ·rw [if_pos c15] at H
            have c15b0 : decide ((bt a0 x9_1) < 32) = true := decide_eq_true c15
            clear c15
            (first | rw [c15b0] | (simp only [i64_w, i32_w]; rw [c15b0]) | skip)
            have H' := Aside0.mk H
            clear H
            go_wp2
            go_meet
            case rel => exact ⟨_, (true), (by first | rfl | (simp; done) | (simp [*]; done)), H', ⟨by have := HK1.out; have := HJ5.out; first | omega | exact Nat.le_refl _⟩, ⟨by (with_reducible repeat (first | apply Kd.R_alloc | apply Kd.R_drewN | apply Kd.R_drew)); exact HO_8.out⟩, ⟨by repeat (first | (with_reducible first | exact HB.out | apply below_alloc | apply pw_below_drewN | apply below_drew1) | exact HB.out)⟩⟩
           ·rw [if_neg c15] at H
            have c15b0 : decide ((bt a0 x9_1) < 32) = false := decide_eq_false c15
            clear c15
            (first | rw [c15b0] | (simp only [i64_w, i32_w]; rw [c15b0]) | skip)
            have H' := Aside0.mk H
            clear H
            go_wp2
            go_meet
            case rel => exact ⟨_, (decide ((bt a0 x9_1) > 126)), (by first | rfl | (simp; done) | (simp [*]; done)), H', ⟨by have := HK1.out; have := HJ5.out; first | omega | exact Nat.le_refl _⟩, ⟨by (with_reducible repeat (first | apply Kd.R_alloc | apply Kd.R_drewN | apply Kd.R_drew)); exact HO_8.out⟩, ⟨by repeat (first | (with_reducible first | exact HB.out | apply below_alloc | apply pw_below_drewN | apply below_drew1) | exact HB.out)⟩⟩
          case rest =>
           clear HC14
           try clear c1
           try clear p1
           try clear q1
           try clear hx1
           try clear p2
           try clear c3
           try clear c3b0
           try clear c4
           try clear c4b0
           try clear c5
           try clear p5
           try clear q5
           try clear hx5
           try clear p6
           try clear c7
           try clear c7b0
           try clear c8
           try clear c8b0
           try clear p9
           try clear q9
           try clear hx9
           try clear c10
           try clear c11
           try clear c11b0
           try clear c12
           try clear c12b0
           try clear p13
           try clear q13
           try clear hx13
           try clear c15
           try clear c15b0
           try clear p13
           try clear p2
           try clear p5
           try clear p6
           try clear p9
           try clear q13
           try clear q5
           try clear q9
           obtain ⟨kq, x37_13, rfl, HA, HJ13, HO_8, HB⟩ := hcut
           cases kq with
           | zero => exact absurd HA.out (by simp [primerref04_Literal.j2])
           | succ kj13 =>
            have H := HA.out
            clear HA
            simp only [primerref04_Literal.j2] at H
            by_cases c16 : x37_13 = true
            ·subst c16
             have H1 : (some ((⟨#[]⟩ : ByteArray), x9_1, false)) = some (r1, r2, r3) := by rw [if_pos rfl] at H; exact H
             clear H
             have H := H1
             clear H1
             simp only [Option.some.injEq, Prod.mk.injEq] at H
             obtain ⟨rfl, rfl, rfl⟩ := H
             go_wp2
             go_ret3
             exact ⟨by first | rfl | (simp [errW_none, errW_some] <;> rfl) | (simp [*, errW_none, errW_some] <;> rfl), by repeat (first | (with_reducible first | exact HB.out | apply below_alloc | apply pw_below_drewN | apply below_drew1) | exact HB.out)⟩
            ·replace c16 := Bool.eq_false_iff.mpr c16
             subst c16
             have H1 : (if (bt a0 x9_1) = 92 then (if (wrap64 (x9_1 + 1)) = (a0.size : Int) then (some ((⟨#[]⟩ : ByteArray), wrap64 (x9_1 + 1), false)) else (if 0 ≤ (wrap64 (x9_1 + 1)) then (if (wrap64 (x9_1 + 1)) < (a0.size : Int) then (if (bt a0 (wrap64 (x9_1 + 1))) = 92 then (primerref04_Literal.j3 kj13 a0 (bt a0 a1) x8_1 (wrap64 (x9_1 + 1)) (bt a0 (wrap64 (x9_1 + 1))) (bt a0 (wrap64 (x9_1 + 1))) ((bt a0 (wrap64 (x9_1 + 1))) == 92)) else (if (bt a0 (wrap64 (x9_1 + 1))) = 39 then (primerref04_Literal.j3 kj13 a0 (bt a0 a1) x8_1 (wrap64 (x9_1 + 1)) (bt a0 (wrap64 (x9_1 + 1))) (bt a0 (wrap64 (x9_1 + 1))) ((bt a0 (wrap64 (x9_1 + 1))) == 39)) else (primerref04_Literal.j3 kj13 a0 (bt a0 a1) x8_1 (wrap64 (x9_1 + 1)) (bt a0 (wrap64 (x9_1 + 1))) (bt a0 (wrap64 (x9_1 + 1))) ((bt a0 (wrap64 (x9_1 + 1))) == 34)))) else (none)) else (none))) else (if x8_1.length < 140737488355328 then (primerref04_Literal.l0 kj13 a0 (bt a0 a1) (x8_1 ++ [(bt a0 x9_1)]) (wrap64 (x9_1 + 1))) else (none))) = some (r1, r2, r3) := by rw [if_neg (show ¬ (false = true) by decide)] at H; exact H
             clear H
             have H := H1
             clear H1
             by_cases c17 : (bt a0 x9_1) = 92
             ·rw [if_pos c17] at H
              have c17b0 : ((bt a0 x9_1) == 92) = true := beq_iff_eq.mpr c17
              have c17b1 : ((bt a0 x9_1) != 92) = false := bne_eq_false_iff_eq.mpr c17
              clear c17
              by_cases c18 : (wrap64 (x9_1 + 1)) = (a0.size : Int)
              ·rw [if_pos c18] at H
               have c18b0 : ((wrap64 (x9_1 + 1)) == (a0.size : Int)) = true := beq_iff_eq.mpr c18
               have c18b1 : ((wrap64 (x9_1 + 1)) != (a0.size : Int)) = false := bne_eq_false_iff_eq.mpr c18
               clear c18
               simp only [Option.some.injEq, Prod.mk.injEq] at H
               obtain ⟨rfl, rfl, rfl⟩ := H
               go_wp2
               go_ret3
               exact ⟨by first | rfl | (simp [errW_none, errW_some] <;> rfl) | (simp [*, errW_none, errW_some] <;> rfl), by repeat (first | (with_reducible first | exact HB.out | apply below_alloc | apply pw_below_drewN | apply below_drew1) | exact HB.out)⟩
              ·rw [if_neg c18] at H
               have c18b0 : ((wrap64 (x9_1 + 1)) == (a0.size : Int)) = false := beq_eq_false_iff_ne.mpr c18
               have c18b1 : ((wrap64 (x9_1 + 1)) != (a0.size : Int)) = true := bne_iff_ne.mpr c18
               obtain ⟨ji19, hji19⟩ : ∃ j_ : Int, (wrap64 (x9_1 + 1)) = j_ := ⟨_, rfl⟩
               replace H : (if 0 ≤ (ji19) then (if (ji19) < (a0.size : Int) then (if (bt a0 (ji19)) = 92 then (primerref04_Literal.j3 kj13 a0 (bt a0 a1) x8_1 ji19 (bt a0 (ji19)) (bt a0 (ji19)) ((bt a0 (ji19)) == 92)) else (if (bt a0 (ji19)) = 39 then (primerref04_Literal.j3 kj13 a0 (bt a0 a1) x8_1 ji19 (bt a0 (ji19)) (bt a0 (ji19)) ((bt a0 (ji19)) == 39)) else (primerref04_Literal.j3 kj13 a0 (bt a0 a1) x8_1 ji19 (bt a0 (ji19)) (bt a0 (ji19)) ((bt a0 (ji19)) == 34)))) else (none)) else (none)) = some (r1, r2, r3) := by first | (rw [hji19] at H; exact H) | (simp only [hji19] at H ⊢; exact H)
               (try rw [hji19] at c18b0)
               (try rw [hji19] at c18b1)
               have hji19w : (IntKind.i64.wrap (x9_1 + 1)) = ji19 := (i64_w _).trans hji19
               by_cases c20 : 0 ≤ (ji19)
               ·rw [if_pos c20] at H
                have c20b0 : decide (0 ≤ (ji19)) = true := decide_eq_true c20
                clear c20
                by_cases c21 : (ji19) < (a0.size : Int)
                ·rw [if_pos c21] at H
                 have c21b0 : decide ((ji19) < (a0.size : Int)) = true := decide_eq_true c21
                 clear c21
                 have HC23 := Aside0.mk H
                 clear H
                 have p22 : 0 ≤ ((ji19) : Int) := of_decide_eq_true (by first | (with_reducible assumption) | assumption)
                 have q22 : (ji19) < (a0.size : Int) := of_decide_eq_true (by first | (with_reducible assumption) | assumption)
                 have hx22 := bt_at a0 (ji19)
                 replace p22 := eq_true p22
                 replace q22 := eq_true q22
                 go_upto_if 57 with (fail)
                 go_cut [57] (fun v57 wc => ∃ (kq : Nat) (x57_22 : Bool), v57 = .bool x57_22 ∧ Aside0 (primerref04_Literal.j3 kq a0 (bt a0 a1) x8_1 ji19 (bt a0 (ji19)) (bt a0 (ji19)) x57_22 = some (r1, r2, r3)) ∧ Aside0 (kq ≤ kj13) ∧ Aside0 (Kd.R (Kd.int .u8) 5 wc w.heap.size (fun _ => True) u8 x8_1) ∧ Aside0 (Below w.heap.size w wc))
                 case first =>
                  have H := HC23.out
                  clear HC23
                  by_cases c24 : (bt a0 (ji19)) = 92
                  ·rw [if_pos c24] at H
                   have c24b0 : ((bt a0 (ji19)) == 92) = true := beq_iff_eq.mpr c24
                   have c24b1 : ((bt a0 (ji19)) != 92) = false := bne_eq_false_iff_eq.mpr c24
                   clear c24
                   (first | rw [c24b0] | (simp only [i64_w, i32_w]; rw [c24b0]) | skip)
                   have H' := Aside0.mk H
                   clear H
                   go_wp2
                   go_meet
                   case rel => exact ⟨_, (((bt a0 (ji19)) == 92)), (by first | rfl | (simp; done) | (simp only [← hji19] <;> (first | rfl | (simp; done))) | (simp [*]; done)), H', ⟨by have := HK1.out; have := HJ5.out; have := HJ13.out; first | omega | exact Nat.le_refl _⟩, ⟨by (with_reducible repeat (first | apply Kd.R_alloc | apply Kd.R_drewN | apply Kd.R_drew)); exact HO_8.out⟩, ⟨by repeat (first | (with_reducible first | exact HB.out | apply below_alloc | apply pw_below_drewN | apply below_drew1) | exact HB.out)⟩⟩
                  ·rw [if_neg c24] at H
                   have c24b0 : ((bt a0 (ji19)) == 92) = false := beq_eq_false_iff_ne.mpr c24
                   have c24b1 : ((bt a0 (ji19)) != 92) = true := bne_iff_ne.mpr c24
                   (first | rw [c24b0] | (simp only [i64_w, i32_w]; rw [c24b0]) | skip)
                   by_cases c25 : (bt a0 (ji19)) = 39
                   ·rw [if_pos c25] at H
                    have c25b0 : ((bt a0 (ji19)) == 39) = true := beq_iff_eq.mpr c25
                    have c25b1 : ((bt a0 (ji19)) != 39) = false := bne_eq_false_iff_eq.mpr c25
                    clear c25
                    have H' := Aside0.mk H
                    clear H
                    go_wp2
                    go_meet
                    case rel => exact ⟨_, (((bt a0 (ji19)) == 39)), (by first | rfl | (simp; done) | (simp only [← hji19] <;> (first | rfl | (simp; done))) | (simp [*]; done)), H', ⟨by have := HK1.out; have := HJ5.out; have := HJ13.out; first | omega | exact Nat.le_refl _⟩, ⟨by (with_reducible repeat (first | apply Kd.R_alloc | apply Kd.R_drewN | apply Kd.R_drew)); exact HO_8.out⟩, ⟨by repeat (first | (with_reducible first | exact HB.out | apply below_alloc | apply pw_below_drewN | apply below_drew1) | exact HB.out)⟩⟩
                   ·rw [if_neg c25] at H
                    have c25b0 : ((bt a0 (ji19)) == 39) = false := beq_eq_false_iff_ne.mpr c25
                    have c25b1 : ((bt a0 (ji19)) != 39) = true := bne_iff_ne.mpr c25
                    have H' := Aside0.mk H
                    clear H
                    go_wp2
                    go_meet
                    case rel => exact ⟨_, (((bt a0 (ji19)) == 34)), (by first | rfl | (simp; done) | (simp only [← hji19] <;> (first | rfl | (simp; done))) | (simp [*]; done)), H', ⟨by have := HK1.out; have := HJ5.out; have := HJ13.out; first | omega | exact Nat.le_refl _⟩, ⟨by (with_reducible repeat (first | apply Kd.R_alloc | apply Kd.R_drewN | apply Kd.R_drew)); exact HO_8.out⟩, ⟨by repeat (first | (with_reducible first | exact HB.out | apply below_alloc | apply pw_below_drewN | apply below_drew1) | exact HB.out)⟩⟩
                 case rest =>
                  clear HC23
                  try clear c1
                  try clear p1
                  try clear q1
                  try clear hx1
                  try clear c2
                  try clear p2
                  try clear q2
                  try clear hx2
                  try clear c3
                  try clear c3b0
                  try clear c4
                  try clear c4b0
                  try clear c5
                  try clear p5
                  try clear q5
                  try clear hx5
                  try clear p6
                  try clear c7
                  try clear c7b0
                  try clear c8
                  try clear c8b0
                  try clear p9
                  try clear q9
                  try clear hx9
                  try clear c10
                  try clear c11
                  try clear c11b0
                  try clear c12
                  try clear c12b0
                  try clear p13
                  try clear q13
                  try clear hx13
                  try clear c15
                  try clear c15b0
                  try clear c16
                  try clear c17
                  try clear c17b0
                  try clear c17b1
                  try clear c18
                  try clear c18b0
                  try clear c18b1
                  try clear c20
                  try clear c20b0
                  try clear c21
                  try clear c21b0
                  try clear p22
                  try clear q22
                  try clear hx22
                  try clear c24
                  try clear c24b0
                  try clear c24b1
                  try clear c25
                  try clear c25b0
                  try clear c25b1
                  try clear p1
                  try clear p13
                  try clear p2
                  try clear p22
                  try clear p5
                  try clear p6
                  try clear p9
                  try clear q1
                  try clear q13
                  try clear q22
                  try clear q5
                  try clear q9
                  obtain ⟨kq, x57_22, rfl, HA, HJ22, HO_8, HB⟩ := hcut
                  cases kq with
                  | zero => exact absurd HA.out (by simp [primerref04_Literal.j3])
                  | succ kj22 =>
                   have H := HA.out
                   clear HA
                   simp only [primerref04_Literal.j3] at H
                   by_cases c26 : x57_22 = true
                   ·subst c26
                    have H1 : (if x8_1.length < 140737488355328 then (primerref04_Literal.l0 kj22 a0 (bt a0 a1) (x8_1 ++ [(bt a0 (ji19))]) (wrap64 (ji19 + 1))) else (none)) = some (r1, r2, r3) := by rw [if_pos rfl] at H; exact H
                    clear H
                    have H := H1
                    clear H1
                    by_cases c27 : x8_1.length < 140737488355328
                    ·rw [if_pos c27] at H
                     have LMc27 := Aside0.mk c27
                     clear c27
                     obtain ⟨y284, hy284⟩ : ∃ y_ : List Int, y_ = (x8_1 ++ [(bt a0 (ji19))]) := ⟨_, rfl⟩
                     replace H : (primerref04_Literal.l0 kj22 a0 (bt a0 a1) y284 (wrap64 (ji19 + 1))) = some (r1, r2, r3) := by first | (rw [hy284]; with_reducible exact H) | (have H2_ := (Option.bind_some _ _).symm.trans H; rw [hy284]; with_reducible exact H2_) | (have H2_ := (Option.bind_some _ _).symm.trans H; with_reducible exact H2_) | with_reducible exact H | (rw [hy284]; exact H) | exact H
                     have Ny284 := Aside0.mk hy284
                     clear hy284
                     have H' := Aside0.mk H
                     clear H
                     go_wp2_with (first | ((with_reducible refine gate_builtin (b := .append) (xs := #[.tmp 61, .tmp 63]) rfl ?_); at_builtin; refine Kd.R_append (Kd.int .u8) (w0 := w) w.heap.size rfl (.tmp 61) (.tmp 63) 54 5 (.int .u8 0) 1 rfl Try.underlying54 info5 rfl (by decide) (by omega) u8 x8_1 (bt a0 (ji19)) [.int .u8 (bt a0 (ji19))] (fun _ => True) (fun _ => False) rfl rfl ?aP (fun _ hk => hk.elim) ?aF ?aO ?aB ?aS ?aL ?_; (case aP => exact rfl); (case aB => exact (by repeat (first | (with_reducible first | exact HB.out | apply below_alloc | apply pw_below_drewN | apply below_drew1) | exact HB.out))); (case aF => exact (fun _ _ => trivial)); (case aO => exact (by (with_reducible repeat (first | apply Kd.R_alloc | apply Kd.R_drewN | apply Kd.R_drew)); exact HO_8.out)); (case aS => exact (below_size (by repeat (first | (with_reducible first | exact HB.out | apply below_alloc | apply pw_below_drewN | apply below_drew1) | exact HB.out)))); (case aL => have := LMc27.out; omega); intro v285 w28 ho hb hg hat; rw [← Ny284.out] at ho; have n0_ := Aside0.mk (hb); have n1_ := Aside0.mk (ho); clear HB; clear HO_8; have HB := n0_; have HO286 := n1_; clear n0_ n1_; clear ho hb hg hat))
                     go_roundg kj22
                     case measure => have := HK1.out; have := HJ5.out; have := HJ13.out; have := HJ22.out; omega
                     case rel => exact ⟨(y284), (wrap64 (ji19 + 1)), (by first | rfl | (simp; done) | (simp only [← hji19] <;> (first | rfl | (simp; done))) | (simp [*]; done)), H', ⟨by have := HK1.out; have := HJ5.out; have := HJ13.out; have := HJ22.out; omega⟩, ⟨by (with_reducible repeat (first | apply Kd.R_alloc | apply Kd.R_drewN | apply Kd.R_drew)); exact HO286.out⟩, ⟨by repeat (first | (with_reducible first | exact HB.out | apply below_alloc | apply pw_below_drewN | apply below_drew1) | exact HB.out)⟩⟩
                    ·rw [if_neg c27] at H
                     exact absurd H (by simp)
                   ·replace c26 := Bool.eq_false_iff.mpr c26
                    subst c26
                    have H1 : (if (bt a0 (ji19)) = 110 then (if x8_1.length < 140737488355328 then (primerref04_Literal.l0 kj22 a0 (bt a0 a1) (x8_1 ++ [10]) (wrap64 (ji19 + 1))) else (none)) else (if (bt a0 (ji19)) = 116 then (if x8_1.length < 140737488355328 then (primerref04_Literal.l0 kj22 a0 (bt a0 a1) (x8_1 ++ [9]) (wrap64 (ji19 + 1))) else (none)) else (if (bt a0 (ji19)) = 120 then (primerref04_Literal.l1 kj22 a0 (bt a0 a1) x8_1 ji19 0 0) else (some ((⟨#[]⟩ : ByteArray), ji19, false))))) = some (r1, r2, r3) := by rw [if_neg (show ¬ (false = true) by decide)] at H; exact H
                    clear H
                    have H := H1
                    clear H1
                    by_cases c29 : (bt a0 (ji19)) = 110
                    ·rw [if_pos c29] at H
                     have c29b0 : ((bt a0 (ji19)) == 110) = true := beq_iff_eq.mpr c29
                     have c29b1 : ((bt a0 (ji19)) != 110) = false := bne_eq_false_iff_eq.mpr c29
                     clear c29
                     by_cases c30 : x8_1.length < 140737488355328
                     ·rw [if_pos c30] at H
                      have LMc30 := Aside0.mk c30
                      clear c30
                      obtain ⟨y287, hy287⟩ : ∃ y_ : List Int, y_ = (x8_1 ++ [10]) := ⟨_, rfl⟩
                      replace H : (primerref04_Literal.l0 kj22 a0 (bt a0 a1) y287 (wrap64 (ji19 + 1))) = some (r1, r2, r3) := by first | (rw [hy287]; with_reducible exact H) | (have H2_ := (Option.bind_some _ _).symm.trans H; rw [hy287]; with_reducible exact H2_) | (have H2_ := (Option.bind_some _ _).symm.trans H; with_reducible exact H2_) | with_reducible exact H | (rw [hy287]; exact H) | exact H
                      have Ny287 := Aside0.mk hy287
                      clear hy287
                      have H' := Aside0.mk H
                      clear H
                      go_wp2_with (first | ((with_reducible refine gate_builtin (b := .append) (xs := #[.tmp 67, .tmp 68]) rfl ?_); at_builtin; refine Kd.R_append (Kd.int .u8) (w0 := w) w.heap.size rfl (.tmp 67) (.tmp 68) 54 5 (.int .u8 0) 1 rfl Try.underlying54 info5 rfl (by decide) (by omega) u8 x8_1 10 [.int .u8 10] (fun _ => True) (fun _ => False) rfl rfl ?aP (fun _ hk => hk.elim) ?aF ?aO ?aB ?aS ?aL ?_; (case aP => exact rfl); (case aB => exact (by repeat (first | (with_reducible first | exact HB.out | apply below_alloc | apply pw_below_drewN | apply below_drew1) | exact HB.out))); (case aF => exact (fun _ _ => trivial)); (case aO => exact (by (with_reducible repeat (first | apply Kd.R_alloc | apply Kd.R_drewN | apply Kd.R_drew)); exact HO_8.out)); (case aS => exact (below_size (by repeat (first | (with_reducible first | exact HB.out | apply below_alloc | apply pw_below_drewN | apply below_drew1) | exact HB.out)))); (case aL => have := LMc30.out; omega); intro v288 w31 ho hb hg hat; rw [← Ny287.out] at ho; have n0_ := Aside0.mk (hb); have n1_ := Aside0.mk (ho); clear HB; clear HO_8; have HB := n0_; have HO289 := n1_; clear n0_ n1_; clear ho hb hg hat))
                      go_roundg kj22
                      case measure => have := HK1.out; have := HJ5.out; have := HJ13.out; have := HJ22.out; omega
                      case rel => exact ⟨(y287), (wrap64 (ji19 + 1)), (by first | rfl | (simp; done) | (simp only [← hji19] <;> (first | rfl | (simp; done))) | (simp [*]; done)), H', ⟨by have := HK1.out; have := HJ5.out; have := HJ13.out; have := HJ22.out; omega⟩, ⟨by (with_reducible repeat (first | apply Kd.R_alloc | apply Kd.R_drewN | apply Kd.R_drew)); exact HO289.out⟩, ⟨by repeat (first | (with_reducible first | exact HB.out | apply below_alloc | apply pw_below_drewN | apply below_drew1) | exact HB.out)⟩⟩
                     ·rw [if_neg c30] at H
                      exact absurd H (by simp)
                    ·rw [if_neg c29] at H
                     have c29b0 : ((bt a0 (ji19)) == 110) = false := beq_eq_false_iff_ne.mpr c29
                     have c29b1 : ((bt a0 (ji19)) != 110) = true := bne_iff_ne.mpr c29
                     by_cases c32 : (bt a0 (ji19)) = 116
                     ·rw [if_pos c32] at H
                      have c32b0 : ((bt a0 (ji19)) == 116) = true := beq_iff_eq.mpr c32
                      have c32b1 : ((bt a0 (ji19)) != 116) = false := bne_eq_false_iff_eq.mpr c32
                      clear c32
                      by_cases c33 : x8_1.length < 140737488355328
                      ·rw [if_pos c33] at H
                       have LMc33 := Aside0.mk c33
                       clear c33
                       obtain ⟨y290, hy290⟩ : ∃ y_ : List Int, y_ = (x8_1 ++ [9]) := ⟨_, rfl⟩
                       replace H : (primerref04_Literal.l0 kj22 a0 (bt a0 a1) y290 (wrap64 (ji19 + 1))) = some (r1, r2, r3) := by first | (rw [hy290]; with_reducible exact H) | (have H2_ := (Option.bind_some _ _).symm.trans H; rw [hy290]; with_reducible exact H2_) | (have H2_ := (Option.bind_some _ _).symm.trans H; with_reducible exact H2_) | with_reducible exact H | (rw [hy290]; exact H) | exact H
                       have Ny290 := Aside0.mk hy290
                       clear hy290
                       have H' := Aside0.mk H
                       clear H
                       go_wp2_with (first | ((with_reducible refine gate_builtin (b := .append) (xs := #[.tmp 72, .tmp 73]) rfl ?_); at_builtin; refine Kd.R_append (Kd.int .u8) (w0 := w) w.heap.size rfl (.tmp 72) (.tmp 73) 54 5 (.int .u8 0) 1 rfl Try.underlying54 info5 rfl (by decide) (by omega) u8 x8_1 9 [.int .u8 9] (fun _ => True) (fun _ => False) rfl rfl ?aP (fun _ hk => hk.elim) ?aF ?aO ?aB ?aS ?aL ?_; (case aP => exact rfl); (case aB => exact (by repeat (first | (with_reducible first | exact HB.out | apply below_alloc | apply pw_below_drewN | apply below_drew1) | exact HB.out))); (case aF => exact (fun _ _ => trivial)); (case aO => exact (by (with_reducible repeat (first | apply Kd.R_alloc | apply Kd.R_drewN | apply Kd.R_drew)); exact HO_8.out)); (case aS => exact (below_size (by repeat (first | (with_reducible first | exact HB.out | apply below_alloc | apply pw_below_drewN | apply below_drew1) | exact HB.out)))); (case aL => have := LMc33.out; omega); intro v291 w34 ho hb hg hat; rw [← Ny290.out] at ho; have n0_ := Aside0.mk (hb); have n1_ := Aside0.mk (ho); clear HB; clear HO_8; have HB := n0_; have HO292 := n1_; clear n0_ n1_; clear ho hb hg hat))
                       go_roundg kj22
                       case measure => have := HK1.out; have := HJ5.out; have := HJ13.out; have := HJ22.out; omega
                       case rel => exact ⟨(y290), (wrap64 (ji19 + 1)), (by first | rfl | (simp; done) | (simp only [← hji19] <;> (first | rfl | (simp; done))) | (simp [*]; done)), H', ⟨by have := HK1.out; have := HJ5.out; have := HJ13.out; have := HJ22.out; omega⟩, ⟨by (with_reducible repeat (first | apply Kd.R_alloc | apply Kd.R_drewN | apply Kd.R_drew)); exact HO292.out⟩, ⟨by repeat (first | (with_reducible first | exact HB.out | apply below_alloc | apply pw_below_drewN | apply below_drew1) | exact HB.out)⟩⟩
                      ·rw [if_neg c33] at H
                       exact absurd H (by simp)
                     ·rw [if_neg c32] at H
                      have c32b0 : ((bt a0 (ji19)) == 116) = false := beq_eq_false_iff_ne.mpr c32
                      have c32b1 : ((bt a0 (ji19)) != 116) = true := bne_iff_ne.mpr c32
                      by_cases c35 : (bt a0 (ji19)) = 120
                      ·rw [if_pos c35] at H
                       have c35b0 : ((bt a0 (ji19)) == 120) = true := beq_iff_eq.mpr c35
                       have c35b1 : ((bt a0 (ji19)) != 120) = false := bne_eq_false_iff_eq.mpr c35
                       clear c35
                       have H' := Aside0.mk H
                       clear H
                       go_wp2
                       go_loopg [9, 11, 12] kj22 (fun kq v9 v11 v12 w' => ∃ (x9_5 : Int) (x11_5 : Int) (x12_5 : Int), v9 = .int .i64 x9_5 ∧ v11 = .int .i64 x11_5 ∧ v12 = .int .i64 x12_5 ∧ Aside0 (primerref04_Literal.l1 kq a0 (bt a0 a1) x8_1 x9_5 x11_5 x12_5 = some (r1, r2, r3)) ∧ Aside0 (kq ≤ kj22) ∧ Aside0 (Kd.R (Kd.int .u8) 5 w' w.heap.size (fun _ => True) u8 x8_1) ∧ Aside0 (Below w.heap.size w w'))
                       case atStart => exact ⟨(ji19), (0), (0), (by first | rfl | (simp; done) | (simp only [← hji19] <;> (first | rfl | (simp; done))) | (simp [*]; done)), (by first | rfl | (simp; done) | (simp [*]; done)), (by first | rfl | (simp; done) | (simp [*]; done)), H', ⟨Nat.le_refl _⟩, ⟨by (with_reducible repeat (first | apply Kd.R_alloc | apply Kd.R_drewN | apply Kd.R_drew)); exact HO_8.out⟩, ⟨by repeat (first | (with_reducible first | exact HB.out | apply below_alloc | apply pw_below_drewN | apply below_drew1) | exact HB.out)⟩⟩
                       case round =>
                        clear H'
                        try clear c1
                        try clear p1
                        try clear q1
                        try clear hx1
                        try clear c2
                        try clear p2
                        try clear q2
                        try clear hx2
                        try clear c3
                        try clear c3b0
                        try clear c4
                        try clear c4b0
                        try clear c5
                        try clear p5
                        try clear q5
                        try clear hx5
                        try clear p6
                        try clear c7
                        try clear c7b0
                        try clear c8
                        try clear c8b0
                        try clear p9
                        try clear q9
                        try clear hx9
                        try clear c10
                        try clear c11
                        try clear c11b0
                        try clear c12
                        try clear c12b0
                        try clear p13
                        try clear q13
                        try clear hx13
                        try clear c15
                        try clear c15b0
                        try clear c16
                        try clear c17
                        try clear c17b0
                        try clear c17b1
                        try clear c18
                        try clear c18b0
                        try clear c18b1
                        try clear c20
                        try clear c20b0
                        try clear c21
                        try clear c21b0
                        try clear p22
                        try clear q22
                        try clear hx22
                        try clear c24
                        try clear c24b0
                        try clear c24b1
                        try clear c25
                        try clear c25b0
                        try clear c25b1
                        try clear c26
                        try clear c27
                        try clear c29
                        try clear c29b0
                        try clear c29b1
                        try clear c30
                        try clear c32
                        try clear c32b0
                        try clear c32b1
                        try clear c33
                        try clear c35
                        try clear c35b0
                        try clear c35b1
                        try clear p1
                        try clear p13
                        try clear p2
                        try clear p22
                        try clear p5
                        try clear p6
                        try clear p9
                        try clear q1
                        try clear q13
                        try clear q2
                        try clear q22
                        try clear q5
                        try clear q9
                        obtain ⟨x9_5, x11_5, x12_5, rfl, rfl, rfl, HA, HK5, HO_8, HB⟩ := hrel
                        cases gk with
                        | zero => exact absurd HA.out (by simp [primerref04_Literal.l1])
                        | succ k5 =>
                         have H := HA.out
                         clear HA
                         simp only [primerref04_Literal.l1] at H
                         by_cases c36 : x12_5 < 2
                         ·rw [if_pos c36] at H
                          have c36b0 : decide (x12_5 < 2) = true := decide_eq_true c36
                          clear c36
                          by_cases c37 : (wrap64 (x9_5 + 1)) = (a0.size : Int)
                          ·rw [if_pos c37] at H
                           have c37b0 : ((wrap64 (x9_5 + 1)) == (a0.size : Int)) = true := beq_iff_eq.mpr c37
                           have c37b1 : ((wrap64 (x9_5 + 1)) != (a0.size : Int)) = false := bne_eq_false_iff_eq.mpr c37
                           clear c37
                           simp only [Option.some.injEq, Prod.mk.injEq] at H
                           obtain ⟨rfl, rfl, rfl⟩ := H
                           go_wp2
                           go_ret3
                           exact ⟨by first | rfl | (simp [errW_none, errW_some] <;> rfl) | (simp only [← hji19]; first | rfl | (simp [errW_none, errW_some] <;> rfl)) | (simp [*, errW_none, errW_some] <;> rfl), by repeat (first | (with_reducible first | exact HB.out | apply below_alloc | apply pw_below_drewN | apply below_drew1) | exact HB.out)⟩
                          ·rw [if_neg c37] at H
                           have c37b0 : ((wrap64 (x9_5 + 1)) == (a0.size : Int)) = false := beq_eq_false_iff_ne.mpr c37
                           have c37b1 : ((wrap64 (x9_5 + 1)) != (a0.size : Int)) = true := bne_iff_ne.mpr c37
                           obtain ⟨ji38, hji38⟩ : ∃ j_ : Int, (wrap64 (x9_5 + 1)) = j_ := ⟨_, rfl⟩
                           replace H : (if 0 ≤ (ji38) then (if (ji38) < (a0.size : Int) then ((primerref04_hex.f k5 (bt a0 (ji38))).bind fun t296 => (if t296 < 0 then (some ((⟨#[]⟩ : ByteArray), ji38, false)) else ((primerref04_hex.f k5 (bt a0 (ji38))).bind fun t297 => (primerref04_Literal.l1 k5 a0 (bt a0 a1) x8_1 ji38 (wrap64 ((wrap64 (16 * x11_5)) + t297)) (wrap64 (x12_5 + 1)))))) else (none)) else (none)) = some (r1, r2, r3) := by first | (rw [hji38] at H; exact H) | (simp only [hji38] at H ⊢; exact H)
                           (try rw [hji38] at c37b0)
                           (try rw [hji38] at c37b1)
                           have hji38w : (IntKind.i64.wrap (x9_5 + 1)) = ji38 := (i64_w _).trans hji38
                           by_cases c39 : 0 ≤ (ji38)
                           ·rw [if_pos c39] at H
                            have c39b0 : decide (0 ≤ (ji38)) = true := decide_eq_true c39
                            clear c39
                            by_cases c40 : (ji38) < (a0.size : Int)
                            ·rw [if_pos c40] at H
                             have c40b0 : decide ((ji38) < (a0.size : Int)) = true := decide_eq_true c40
                             clear c40
                             replace H := Option.bind_eq_some_iff.mp H
                             obtain ⟨t296, A420, H⟩ := H
                             replace H : (if t296 < 0 then (some ((⟨#[]⟩ : ByteArray), ji38, false)) else ((primerref04_hex.f k5 (bt a0 (ji38))).bind fun t297 => (primerref04_Literal.l1 k5 a0 (bt a0 a1) x8_1 ji38 (wrap64 ((wrap64 (16 * x11_5)) + t297)) (wrap64 (x12_5 + 1))))) = some (r1, r2, r3) := H
                             have A42 := Aside0.mk A420
                             clear A420
                             by_cases c43 : t296 < 0
                             ·rw [if_pos c43] at H
                              have c43b0 : decide (t296 < 0) = true := decide_eq_true c43
                              clear c43
                              simp only [Option.some.injEq, Prod.mk.injEq] at H
                              obtain ⟨rfl, rfl, rfl⟩ := H
                              have p41 : 0 ≤ ((ji38) : Int) := of_decide_eq_true (by first | (with_reducible assumption) | assumption)
                              have q41 : (ji38) < (a0.size : Int) := of_decide_eq_true (by first | (with_reducible assumption) | assumption)
                              have hx41 := bt_at a0 (ji38)
                              replace p41 := eq_true p41
                              replace q41 := eq_true q41
                              go_wp2_with (first | (go_at_call 63; (with_reducible refine (primerref04_hex.calls k5 (bt a0 (ji38)) t296 _ A42.out).mono ?_); rintro e w' ⟨rfl, ⟨nd, rfl⟩⟩))
                              go_ret3
                              exact ⟨by first | rfl | (simp [errW_none, errW_some] <;> rfl) | (simp only [← hji19, ← hji38]; first | rfl | (simp [errW_none, errW_some] <;> rfl)) | (simp [*, errW_none, errW_some] <;> rfl), by repeat (first | (with_reducible first | exact HB.out | apply below_alloc | apply pw_below_drewN | apply below_drew1) | exact HB.out)⟩
                             ·rw [if_neg c43] at H
                              have c43b0 : decide (t296 < 0) = false := decide_eq_false c43
                              clear c43
                              replace H := Option.bind_eq_some_iff.mp H
                              obtain ⟨t297, A450, H⟩ := H
                              replace H : (primerref04_Literal.l1 k5 a0 (bt a0 a1) x8_1 ji38 (wrap64 ((wrap64 (16 * x11_5)) + t297)) (wrap64 (x12_5 + 1))) = some (r1, r2, r3) := H
                              have A45 := Aside0.mk A450
                              clear A450
                              have H' := Aside0.mk H
                              clear H
                              have p41 : 0 ≤ ((ji38) : Int) := of_decide_eq_true (by first | (with_reducible assumption) | assumption)
                              have q41 : (ji38) < (a0.size : Int) := of_decide_eq_true (by first | (with_reducible assumption) | assumption)
                              have hx41 := bt_at a0 (ji38)
                              replace p41 := eq_true p41
                              replace q41 := eq_true q41
                              go_wp2_with (first | (go_at_call 63; (with_reducible refine (primerref04_hex.calls k5 (bt a0 (ji38)) t296 _ A42.out).mono ?_); rintro e w' ⟨rfl, ⟨nd, rfl⟩⟩; have p44 : 0 ≤ ((ji38) : Int) := of_decide_eq_true (by first | (with_reducible assumption) | assumption); have q44 : (ji38) < (a0.size : Int) := of_decide_eq_true (by first | (with_reducible assumption) | assumption); have hx44 := bt_at a0 (ji38); replace p44 := eq_true p44; replace q44 := eq_true q44) | ((with_reducible refine gate_callee (f := 63) rfl ?_); refine goesL_ (some 100) rfl rfl Try.func63 (by kernel_rfl) rfl #[.int .u8 (bt a0 (ji38))] rfl (by (try simp only [List.map_toArray, List.map_cons, List.map_nil]); first | done | (simp only [hji38]; rfl) | rfl | (simp only [List.length_drop, List.length_take]; rfl)) ?_; (with_reducible refine (primerref04_hex.calls k5 (bt a0 (ji38)) t297 _ A45.out).mono ?_); rintro e w' ⟨rfl, ⟨nd, rfl⟩⟩; refine ⟨_, rfl, ?_⟩))
                              go_roundg k5
                              case measure => have := HK1.out; have := HJ5.out; have := HJ13.out; have := HJ22.out; have := HK5.out; omega
                              case rel => exact ⟨(ji38), (wrap64 ((wrap64 (16 * x11_5)) + t297)), (wrap64 (x12_5 + 1)), (by first | rfl | (simp; done) | (simp only [← hji38] <;> (first | rfl | (simp; done))) | (simp [*]; done)), (by first | rfl | (simp; done) | (simp [*]; done)), (by first | rfl | (simp; done) | (simp [*]; done)), H', ⟨by have := HK1.out; have := HJ5.out; have := HJ13.out; have := HJ22.out; have := HK5.out; omega⟩, ⟨by (with_reducible repeat (first | apply Kd.R_alloc | apply Kd.R_drewN | apply Kd.R_drew)); exact HO_8.out⟩, ⟨by repeat (first | (with_reducible first | exact HB.out | apply below_alloc | apply pw_below_drewN | apply below_drew1) | exact HB.out)⟩⟩
                            ·rw [if_neg c40] at H
                             exact absurd H (by simp)
                           ·rw [if_neg c39] at H
                            exact absurd H (by simp)
                         ·rw [if_neg c36] at H
                          have c36b0 : decide (x12_5 < 2) = false := decide_eq_false c36
                          clear c36
                          by_cases c46 : x8_1.length < 140737488355328
                          ·rw [if_pos c46] at H
                           have LMc46 := Aside0.mk c46
                           clear c46
                           obtain ⟨y293, hy293⟩ : ∃ y_ : List Int, y_ = (x8_1 ++ [(x11_5) % 256]) := ⟨_, rfl⟩
                           replace H : (primerref04_Literal.l0 k5 a0 (bt a0 a1) y293 (wrap64 (x9_5 + 1))) = some (r1, r2, r3) := by first | (rw [hy293]; with_reducible exact H) | (have H2_ := (Option.bind_some _ _).symm.trans H; rw [hy293]; with_reducible exact H2_) | (have H2_ := (Option.bind_some _ _).symm.trans H; with_reducible exact H2_) | with_reducible exact H | (rw [hy293]; exact H) | exact H
                           have Ny293 := Aside0.mk hy293
                           clear hy293
                           have H' := Aside0.mk H
                           clear H
                           go_wp2_with (first | ((with_reducible refine gate_builtin (b := .append) (xs := #[.tmp 102, .tmp 105]) rfl ?_); at_builtin; refine Kd.R_append (Kd.int .u8) (w0 := w) w.heap.size rfl (.tmp 102) (.tmp 105) 54 5 (.int .u8 0) 1 rfl Try.underlying54 info5 rfl (by decide) (by omega) u8 x8_1 ((x11_5) % 256) [.int .u8 ((x11_5) % 256)] (fun _ => True) (fun _ => False) rfl rfl ?aP (fun _ hk => hk.elim) ?aF ?aO ?aB ?aS ?aL ?_; (case aP => exact rfl); (case aB => exact (by repeat (first | (with_reducible first | exact HB.out | apply below_alloc | apply pw_below_drewN | apply below_drew1) | exact HB.out))); (case aF => exact (fun _ _ => trivial)); (case aO => exact (by (with_reducible repeat (first | apply Kd.R_alloc | apply Kd.R_drewN | apply Kd.R_drew)); exact HO_8.out)); (case aS => exact (below_size (by repeat (first | (with_reducible first | exact HB.out | apply below_alloc | apply pw_below_drewN | apply below_drew1) | exact HB.out)))); (case aL => have := LMc46.out; omega); intro v294 w47 ho hb hg hat; rw [← Ny293.out] at ho; have n0_ := Aside0.mk (hb); have n1_ := Aside0.mk (ho); clear HB; clear HO_8; have HB := n0_; have HO295 := n1_; clear n0_ n1_; clear ho hb hg hat))
                           go_roundg k5
                           case measure => have := HK1.out; have := HJ5.out; have := HJ13.out; have := HJ22.out; have := HK5.out; omega
                           case rel => exact ⟨(y293), (wrap64 (x9_5 + 1)), (by first | rfl | (simp; done) | (simp [*]; done)), H', ⟨by have := HK1.out; have := HJ5.out; have := HJ13.out; have := HJ22.out; have := HK5.out; omega⟩, ⟨by (with_reducible repeat (first | apply Kd.R_alloc | apply Kd.R_drewN | apply Kd.R_drew)); exact HO295.out⟩, ⟨by repeat (first | (with_reducible first | exact HB.out | apply below_alloc | apply pw_below_drewN | apply below_drew1) | exact HB.out)⟩⟩
                          ·rw [if_neg c46] at H
                           exact absurd H (by simp)
                      ·rw [if_neg c35] at H
                       have c35b0 : ((bt a0 (ji19)) == 120) = false := beq_eq_false_iff_ne.mpr c35
                       have c35b1 : ((bt a0 (ji19)) != 120) = true := bne_iff_ne.mpr c35
                       simp only [Option.some.injEq, Prod.mk.injEq] at H
                       obtain ⟨rfl, rfl, rfl⟩ := H
                       go_wp2
                       go_ret3
                       exact ⟨by first | rfl | (simp [errW_none, errW_some] <;> rfl) | (simp only [← hji19]; first | rfl | (simp [errW_none, errW_some] <;> rfl)) | (simp [*, errW_none, errW_some] <;> rfl), by repeat (first | (with_reducible first | exact HB.out | apply below_alloc | apply pw_below_drewN | apply below_drew1) | exact HB.out)⟩
                ·rw [if_neg c21] at H
                 exact absurd H (by simp)
               ·rw [if_neg c20] at H
                exact absurd H (by simp)
             ·rw [if_neg c17] at H
              have c17b0 : ((bt a0 x9_1) == 92) = false := beq_eq_false_iff_ne.mpr c17
              have c17b1 : ((bt a0 x9_1) != 92) = true := bne_iff_ne.mpr c17
              by_cases c48 : x8_1.length < 140737488355328
              ·rw [if_pos c48] at H
               have LMc48 := Aside0.mk c48
               clear c48
               obtain ⟨y281, hy281⟩ : ∃ y_ : List Int, y_ = (x8_1 ++ [(bt a0 x9_1)]) := ⟨_, rfl⟩
               replace H : (primerref04_Literal.l0 kj13 a0 (bt a0 a1) y281 (wrap64 (x9_1 + 1))) = some (r1, r2, r3) := by first | (rw [hy281]; with_reducible exact H) | (have H2_ := (Option.bind_some _ _).symm.trans H; rw [hy281]; with_reducible exact H2_) | (have H2_ := (Option.bind_some _ _).symm.trans H; with_reducible exact H2_) | with_reducible exact H | (rw [hy281]; exact H) | exact H
               have Ny281 := Aside0.mk hy281
               clear hy281
               have H' := Aside0.mk H
               clear H
               go_wp2_with (first | ((with_reducible refine gate_builtin (b := .append) (xs := #[.tmp 43, .tmp 45]) rfl ?_); at_builtin; refine Kd.R_append (Kd.int .u8) (w0 := w) w.heap.size rfl (.tmp 43) (.tmp 45) 54 5 (.int .u8 0) 1 rfl Try.underlying54 info5 rfl (by decide) (by omega) u8 x8_1 (bt a0 x9_1) [.int .u8 (bt a0 x9_1)] (fun _ => True) (fun _ => False) rfl rfl ?aP (fun _ hk => hk.elim) ?aF ?aO ?aB ?aS ?aL ?_; (case aP => exact rfl); (case aB => exact (by repeat (first | (with_reducible first | exact HB.out | apply below_alloc | apply pw_below_drewN | apply below_drew1) | exact HB.out))); (case aF => exact (fun _ _ => trivial)); (case aO => exact (by (with_reducible repeat (first | apply Kd.R_alloc | apply Kd.R_drewN | apply Kd.R_drew)); exact HO_8.out)); (case aS => exact (below_size (by repeat (first | (with_reducible first | exact HB.out | apply below_alloc | apply pw_below_drewN | apply below_drew1) | exact HB.out)))); (case aL => have := LMc48.out; omega); intro v282 w49 ho hb hg hat; rw [← Ny281.out] at ho; have n0_ := Aside0.mk (hb); have n1_ := Aside0.mk (ho); clear HB; clear HO_8; have HB := n0_; have HO283 := n1_; clear n0_ n1_; clear ho hb hg hat))
               go_roundg kj13
               case measure => have := HK1.out; have := HJ5.out; have := HJ13.out; omega
               case rel => exact ⟨(y281), (wrap64 (x9_1 + 1)), (by first | rfl | (simp; done) | (simp [*]; done)), H', ⟨by have := HK1.out; have := HJ5.out; have := HJ13.out; omega⟩, ⟨by (with_reducible repeat (first | apply Kd.R_alloc | apply Kd.R_drewN | apply Kd.R_drew)); exact HO283.out⟩, ⟨by repeat (first | (with_reducible first | exact HB.out | apply below_alloc | apply pw_below_drewN | apply below_drew1) | exact HB.out)⟩⟩
              ·rw [if_neg c48] at H
               exact absurd H (by simp)
         ·rw [if_neg c12] at H
          exact absurd H (by simp)
        ·rw [if_neg c11] at H
         exact absurd H (by simp)
       ·replace c10 := Bool.eq_false_iff.mpr c10
        subst c10
        have H1 : (if x9_1 = (a0.size : Int) then (some ((⟨#[]⟩ : ByteArray), x9_1, false)) else (some (strOfNums x8_1, wrap64 (x9_1 + 1), true))) = some (r1, r2, r3) := by rw [if_neg (show ¬ (false = true) by decide)] at H; exact H
        clear H
        have H := H1
        clear H1
        by_cases c50 : x9_1 = (a0.size : Int)
        ·rw [if_pos c50] at H
         have c50b0 : (x9_1 == (a0.size : Int)) = true := beq_iff_eq.mpr c50
         have c50b1 : (x9_1 != (a0.size : Int)) = false := bne_eq_false_iff_eq.mpr c50
         clear c50
         simp only [Option.some.injEq, Prod.mk.injEq] at H
         obtain ⟨rfl, rfl, rfl⟩ := H
         go_wp2
         go_ret3
         exact ⟨by first | rfl | (simp [errW_none, errW_some] <;> rfl) | (simp [*, errW_none, errW_some] <;> rfl), by repeat (first | (with_reducible first | exact HB.out | apply below_alloc | apply pw_below_drewN | apply below_drew1) | exact HB.out)⟩
        ·rw [if_neg c50] at H
         have c50b0 : (x9_1 == (a0.size : Int)) = false := beq_eq_false_iff_ne.mpr c50
         have c50b1 : (x9_1 != (a0.size : Int)) = true := bne_iff_ne.mpr c50
         simp only [Option.some.injEq, Prod.mk.injEq] at H
         obtain ⟨rfl, rfl, rfl⟩ := H
         have hcv51 := own_string (P := Try.prog) Try.underlying54 Try.underlying5 Try.underlying9 (Kd.own_of_R HO_8.out)
         go_wp2
         go_ret3
         exact ⟨by first | rfl | (simp [errW_none, errW_some] <;> rfl) | (simp [*, errW_none, errW_some] <;> rfl), by repeat (first | (with_reducible first | exact HB.out | apply below_alloc | apply pw_below_drewN | apply below_drew1) | exact HB.out)⟩
  ·rw [if_neg c4] at H
   exact absurd H (by simp)
 ·rw [if_neg c3] at H
  exact absurd H (by simp)

/-! ### primerref04_fault: function 52 -/
def primerref04_fault.f (k : Nat) (a0 : ByteArray) (a1 : Int) (a2 : Int) : Option (Int × Int × Int) := (primerref04_Place.f k a0 a1).bind fun bt299 => (some (bt299.1, bt299.2, a2))
set_option maxHeartbeats 8000000 in
set_option maxRecDepth 100000 in
theorem primerref04_fault.calls (k : Nat) (a0 : ByteArray) (a1 : Int) (a2 : Int) (r1 : Int) (r2 : Int) (r3 : Int) (w : World) (h : primerref04_fault.f k a0 a1 a2 = some (r1, r2, r3)) :
  Calls Try.prog 52 #[.string a0, .int .i64 a1, .int .i64 a2] w fun e w' => e = .returned (.agg #[.int .i64 r1, .int .i64 r2, .int .i64 r3]) ∧ Below w.heap.size w w' := by
 have hu35 := Try.underlying35
 have HB := Aside0.mk (Below.refl w.heap.size w)
 have H : ((primerref04_Place.f k a0 a1).bind fun bt299 => (some (bt299.1, bt299.2, a2))) = some (r1, r2, r3) := h
 clear h
 replace H := Option.bind_eq_some_iff.mp H
 obtain ⟨⟨t299, t300⟩, A40, H⟩ := H
 replace H : (some (t299, t300, a2)) = some (r1, r2, r3) := H
 have A4 := Aside0.mk A40
 clear A40
 simp only [Option.some.injEq, Prod.mk.injEq] at H
 obtain ⟨rfl, rfl, rfl⟩ := H
 go_enter Try.func52, Try.ntmps52
 go_wp2_with (first | ((with_reducible refine gate_dst (N := 6) rfl ?_); refine box_event ?hg (N := 6) ?hd (cs := #[.int .i64 0, .int .i64 0, .int .i64 0]) (t := 35) ?hr ?_; (case hd => rfl); (case hg => rfl); (case hr => first | (go_simp; done) | (go_simp; rfl)); intro gb298 hg w5 hbox hb; have n0_ := Aside0.mk (below_step (by repeat (first | (with_reducible first | exact HB.out | apply below_alloc | apply pw_below_drewN | apply below_drew1) | exact HB.out)) hb); have n1_ := Aside0.mk (hbox); have n2_ := Aside0.mk ((by rw [hg]; exact (below_size (by repeat (first | (with_reducible first | exact HB.out | apply below_alloc | apply pw_below_drewN | apply below_drew1) | exact HB.out))) : w.heap.size ≤ gb298)); have n3_ := Aside0.mk ((by rw [hg]; exact (below_size (by repeat (first | (with_reducible first | exact HB.out | apply below_alloc | apply pw_below_drewN | apply below_drew1) | exact HB.out))) : w.heap.size ≤ gb298)); clear HB; have HB := n0_; have BK298 := n1_; have GW298 := n2_; have GE298 := n3_; clear n0_ n1_ n2_ n3_; clear hb hbox hg) | ((with_reducible refine gate_callee (f := 48) rfl ?_); refine goesL_ (some 12) rfl rfl Try.func48 (by kernel_rfl) rfl #[.string a0, .int .i64 a1] rfl (by (try simp only [List.map_toArray, List.map_cons, List.map_nil]); first | done | rfl | (simp only [List.length_drop, List.length_take]; rfl)) ?_; (with_reducible refine (primerref04_Place.calls k a0 a1 t299 t300 _ A4.out).mono ?_); rintro e w' ⟨rfl, ⟨nd, rfl⟩⟩; refine ⟨_, rfl, ?_⟩; (try (rw [drewN_self w5]; generalize hq_ : World.drewN w5 _ = w5; have n0_ : Aside0 (w5.heap[gb298]? = some (.cells #[.int .i64 0, .int .i64 0, .int .i64 0] 35 (0, 0))) := ⟨by rw [← hq_]; exact (by (with_reducible repeat (first | refine blk_drewN ?_ _ | refine blk_drew ?_ | refine blk_alloc ?_ _)); exact BK298.out)⟩; have n1_ : Aside0 (Below w.heap.size w w5) := ⟨by rw [← hq_]; exact (by repeat (first | (with_reducible first | exact HB.out | apply below_alloc | apply pw_below_drewN | apply below_drew1 | refine below_set ?_ GE298.out) | exact HB.out))⟩; clear BK298 HB hq_; have BK298 := n0_; have HB := n1_; clear n0_ n1_)); have hcz6_0 : w5.cell? ⟨gb298, 0, none⟩ = some (.int .i64 0) := (blk_cell BK298.out 0).trans rfl; have hcz6_1 : w5.cell? ⟨gb298, 1, none⟩ = some (.int .i64 0) := (blk_cell BK298.out 1).trans rfl; have hcz6_2 : w5.cell? ⟨gb298, 2, none⟩ = some (.int .i64 0) := (blk_cell BK298.out 2).trans rfl; have hfz6_0 := blk_frozen BK298.out 0; have hfz6_1 := blk_frozen BK298.out 1; have hfz6_2 := blk_frozen BK298.out 2))
 refine bodyPost_ret (results_cell_row rfl _ _ gb298 35 #[.int .i64 t299, .int .i64 t300, .int .i64 a2] (0, 0) _ rfl (by (with_reducible repeat (first | refine blk_drewN ?_ _ | refine blk_drew ?_ | refine blk_alloc ?_ _)); refine blk_put (cs := #[.int .i64 t299, .int .i64 t300, .int .i64 0]) ?_ 2 _ rfl; (with_reducible repeat (first | refine blk_drewN ?_ _ | refine blk_drew ?_ | refine blk_alloc ?_ _)); refine blk_put (cs := #[.int .i64 t299, .int .i64 0, .int .i64 0]) ?_ 1 _ rfl; (with_reducible repeat (first | refine blk_drewN ?_ _ | refine blk_drew ?_ | refine blk_alloc ?_ _)); refine blk_put (cs := #[.int .i64 0, .int .i64 0, .int .i64 0]) ?_ 0 _ rfl; (with_reducible repeat (first | refine blk_drewN ?_ _ | refine blk_drew ?_ | refine blk_alloc ?_ _)); exact BK298.out) Try.underlying35 rfl (by kernel_rfl)) rfl ?_
 exact ⟨by first | rfl | (simp [errW_none, errW_some] <;> rfl) | (simp [*, errW_none, errW_some] <;> rfl), by repeat (first | (with_reducible first | exact HB.out | apply below_alloc | apply pw_below_drewN | apply below_drew1 | refine below_set ?_ GE298.out) | exact HB.out)⟩

end Go.Proofs.Ytgllncnfhiiobaa.P
