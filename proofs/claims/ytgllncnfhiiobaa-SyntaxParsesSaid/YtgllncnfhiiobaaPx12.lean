-- PRINTED by print.py (a twelfth state) out of the translation. Not trusted: Lean checks it.
import Derived.Test.YtgllncnfhiiobaaPx0
import Derived.Test.YtgllncnfhiiobaaPx3
import Derived.Test.YtgllncnfhiiobaaPx10
import Derived.Test.YtgllncnfhiiobaaPx11
import Derived.Test.YtgllncnfhiiobaaSynSp
namespace Go.Proofs.Ytgllncnfhiiobaa.P
open Go.RowKit Go.Proofs.YtgllncnfhiiobaaW.PrintWords Go.Proofs.YtgllncnfhiiobaaW.PrintLast Go.Proofs.YtgllncnfhiiobaaW.PrintMore

set_option linter.unusedVariables false
set_option linter.unusedSimpArgs false

/-! ### primerref04_Scan: function 20 -/
mutual
def primerref04_Scan.l0 : Nat → ByteArray → List (S102) → Int → Option ((List (S102)) × Int × Int × Int)
 | 0, _, _, _ => none
 | k + 1, x0, x4, x5 => if x5 < (x0.size : Int) then (if 0 ≤ x5 then ((primerref04_Place.f k x0 x5).bind fun bt307 => (if (bt x0 x5) = 32 then (primerref04_Scan.j1 k x0 x4 x5 (bt x0 x5) bt307.1 bt307.2 true) else (if (bt x0 x5) = 9 then (primerref04_Scan.j1 k x0 x4 x5 (bt x0 x5) bt307.1 bt307.2 true) else (if (bt x0 x5) = 10 then (primerref04_Scan.j1 k x0 x4 x5 (bt x0 x5) bt307.1 bt307.2 true) else (primerref04_Scan.j1 k x0 x4 x5 (bt x0 x5) bt307.1 bt307.2 ((bt x0 x5) == 13)))))) else (none)) else ((primerref04_Place.f k x0 (x0.size : Int)).bind fun bt302 => (if x4.length < 3518437208883 then (some ((x4 ++ [(⟨4, (⟨#[]⟩ : ByteArray), bt302.1, bt302.2⟩ : S102)]), 0, 0, 0)) else (none)))
def primerref04_Scan.j1 : Nat → ByteArray → List (S102) → Int → Int → Int → Int → Bool → Option ((List (S102)) × Int × Int × Int)
 | 0, _, _, _, _, _, _, _ => none
 | k + 1, x0, x4, x5, x6, x7, x8, x48 => if x48 = true then (primerref04_Scan.l0 k x0 x4 (wrap64 (x5 + 1))) else (if x6 = 35 then (primerref04_Scan.l1 k x0 x4 x5) else ((primerref04_letter.f x6).bind fun t309 => (if t309 = true then (primerref04_Scan.l2 k x0 x4 x5 x7 x8 x5) else (if x6 = 39 then (primerref04_Scan.j4 k x0 x4 x5 x6 x7 x8 true) else (primerref04_Scan.j4 k x0 x4 x5 x6 x7 x8 (x6 == 34))))))
def primerref04_Scan.l1 : Nat → ByteArray → List (S102) → Int → Option ((List (S102)) × Int × Int × Int)
 | 0, _, _, _ => none
 | k + 1, x0, x4, x5 => if x5 < (x0.size : Int) then (if 0 ≤ x5 then (if (bt x0 x5) = 10 then (primerref04_Scan.l0 k x0 x4 x5) else (primerref04_Scan.l1 k x0 x4 (wrap64 (x5 + 1)))) else (none)) else (primerref04_Scan.l0 k x0 x4 x5)
def primerref04_Scan.l2 : Nat → ByteArray → List (S102) → Int → Int → Int → Int → Option ((List (S102)) × Int × Int × Int)
 | 0, _, _, _, _, _, _ => none
 | k + 1, x0, x4, x5, x7, x8, x9 => if x5 < (x0.size : Int) then (if 0 ≤ x5 then ((primerref04_rest.f (bt x0 x5)).bind fun t310 => (if t310 = true then (primerref04_Scan.l2 k x0 x4 (wrap64 (x5 + 1)) x7 x8 x9) else (if (wrap64 (x5 - x9)) > 32 then (some (([] : List (S102)), x7, x8, 6)) else (if 0 ≤ x9 then (if x9 ≤ x5 then (if x5 ≤ (x0.size : Int) then (if x4.length < 3518437208883 then (primerref04_Scan.l0 k x0 (x4 ++ [(⟨1, x0.extract (x9 : Int).toNat (x5 : Int).toNat, x7, x8⟩ : S102)]) x5) else (none)) else (none)) else (none)) else (none))))) else (none)) else (if (wrap64 (x5 - x9)) > 32 then (some (([] : List (S102)), x7, x8, 6)) else (if 0 ≤ x9 then (if x9 ≤ x5 then (if x5 ≤ (x0.size : Int) then (if x4.length < 3518437208883 then (primerref04_Scan.l0 k x0 (x4 ++ [(⟨1, x0.extract (x9 : Int).toNat (x5 : Int).toNat, x7, x8⟩ : S102)]) x5) else (none)) else (none)) else (none)) else (none)))
def primerref04_Scan.j4 : Nat → ByteArray → List (S102) → Int → Int → Int → Int → Bool → Option ((List (S102)) × Int × Int × Int)
 | 0, _, _, _, _, _, _, _ => none
 | k + 1, x0, x4, x5, x6, x7, x8, x102 => if x102 = true then ((primerref04_Literal.f k x0 x5).bind fun bt317 => (if bt317.2.2 = true then (if bt317.1.toList = ([] : List UInt8) then (some (([] : List (S102)), x7, x8, 2)) else (if (bt317.1.size : Int) > 16 then (some (([] : List (S102)), x7, x8, 6)) else (if x4.length < 3518437208883 then (primerref04_Scan.l0 k x0 (x4 ++ [(⟨2, bt317.1, x7, x8⟩ : S102)]) bt317.2.1) else (none)))) else ((primerref04_fault.f k x0 bt317.2.1 2).bind fun bt320 => (some (([] : List (S102)), bt320.1, bt320.2.1, bt320.2.2))))) else (primerref04_Scan.l3 k x0 x4 x5 x6 x7 x8 false (⟨#[58, 124, 59, 40, 41, 91, 93, 123, 125, 42, 43, 63, 37]⟩ : ByteArray) 0)
def primerref04_Scan.l3 : Nat → ByteArray → List (S102) → Int → Int → Int → Int → Bool → ByteArray → Int → Option ((List (S102)) × Int × Int × Int)
 | 0, _, _, _, _, _, _, _, _, _ => none
 | k + 1, x0, x4, x5, x6, x7, x8, x13, x14, x15 => if x15 < (x14.size : Int) then (if x13 = true then (primerref04_Scan.l3 k x0 x4 x5 x6 x7 x8 true x14 (wrap64 (x15 + 1))) else (if 0 ≤ x15 then (primerref04_Scan.l3 k x0 x4 x5 x6 x7 x8 ((bt x14 x15) == x6) x14 (wrap64 (x15 + 1))) else (none))) else (if x13 = true then (if 0 ≤ x5 then (if x5 ≤ (wrap64 (x5 + 1)) then (if (wrap64 (x5 + 1)) ≤ (x0.size : Int) then (if x4.length < 3518437208883 then (primerref04_Scan.l0 k x0 (x4 ++ [(⟨3, x0.extract (x5 : Int).toNat ((wrap64 (x5 + 1)) : Int).toNat, x7, x8⟩ : S102)]) (wrap64 (x5 + 1))) else (none)) else (none)) else (none)) else (none)) else (some (([] : List (S102)), x7, x8, 2)))
end
def primerref04_Scan.f (k : Nat) (a0 : ByteArray) : Option ((List (S102)) × Int × Int × Int) := if (a0.size : Int) > 65536 then (some (([] : List (S102)), 0, 0, 6)) else (primerref04_Scan.l0 k a0 ([] : List (S102)) 0)
set_option maxHeartbeats 8000000 in
set_option maxRecDepth 100000 in
theorem primerref04_Scan.calls (k : Nat) (a0 : ByteArray) (r1 : List (S102)) (r2 : Int) (r3 : Int) (r4 : Int) (w : World) (h : primerref04_Scan.f k a0 = some (r1, r2, r3, r4)) :
  Calls Try.prog 20 #[.string a0] w fun e w' => ∃ v0_ : Value, e = .returned (.tuple #[v0_, .agg #[.int .i64 r2, .int .i64 r3, .int .i64 r4]]) ∧ Kd.R k102 102 w' w.heap.size (fun _ => True) v0_ r1 ∧ Below w.heap.size w w' := by
 have hu35 := Try.underlying35
 have hu102 := Try.underlying102
 have HB := Aside0.mk (Below.refl w.heap.size w)
 have H : (if (a0.size : Int) > 65536 then (some (([] : List (S102)), 0, 0, 6)) else (primerref04_Scan.l0 k a0 ([] : List (S102)) 0)) = some (r1, r2, r3, r4) := h
 clear h
 by_cases c2 : (a0.size : Int) > 65536
 ·rw [if_pos c2] at H
  have c2b0 : decide (65536 < (a0.size : Int)) = true := decide_eq_true c2
  have c2b1 : decide (65536 < a0.size) = true := decide_eq_true (by omega)
  clear c2
  simp only [Option.some.injEq, Prod.mk.injEq] at H
  obtain ⟨rfl, rfl, rfl, rfl⟩ := H
  go_enter Try.func20, Try.ntmps20
  go_wp2_with (first | ((with_reducible refine gate_dst (N := 3) rfl ?_); refine box_event ?hg (N := 3) ?hd (cs := #[.int .i64 0, .int .i64 0, .int .i64 0]) (t := 35) ?hr ?_; (case hd => rfl); (case hg => rfl); (case hr => first | (go_simp; done) | (go_simp; rfl)); intro gb301 hg w3 hbox hb; have n0_ := Aside0.mk (below_step (by repeat (first | (with_reducible first | exact HB.out | apply below_alloc | apply pw_below_drewN | apply below_drew1) | exact HB.out)) hb); have n1_ := Aside0.mk (hbox); have n2_ := Aside0.mk ((by rw [hg]; exact (below_size (by repeat (first | (with_reducible first | exact HB.out | apply below_alloc | apply pw_below_drewN | apply below_drew1) | exact HB.out))) : w.heap.size ≤ gb301)); have n3_ := Aside0.mk ((by rw [hg]; exact (below_size (by repeat (first | (with_reducible first | exact HB.out | apply below_alloc | apply pw_below_drewN | apply below_drew1) | exact HB.out))) : w.heap.size ≤ gb301)); clear HB; have HB := n0_; have BK301 := n1_; have GW301 := n2_; have GE301 := n3_; clear n0_ n1_ n2_ n3_; clear hb hbox hg; have hcz4_0 : w3.cell? ⟨gb301, 0, none⟩ = some (.int .i64 0) := (blk_cell BK301.out 0).trans rfl; have hcz4_1 : w3.cell? ⟨gb301, 1, none⟩ = some (.int .i64 0) := (blk_cell BK301.out 1).trans rfl; have hcz4_2 : w3.cell? ⟨gb301, 2, none⟩ = some (.int .i64 0) := (blk_cell BK301.out 2).trans rfl; have hfz4_0 := blk_frozen BK301.out 0; have hfz4_1 := blk_frozen BK301.out 1; have hfz4_2 := blk_frozen BK301.out 2))
  refine bodyPost_ret (results_tc rfl _ _ gb301 35 #[.int .i64 0, .int .i64 0, .int .i64 6] (0, 0) _ rfl (by (with_reducible repeat (first | refine blk_drewN ?_ _ | refine blk_drew ?_ | refine blk_alloc ?_ _)); refine blk_put (cs := #[.int .i64 0, .int .i64 0, .int .i64 0]) ?_ 2 _ rfl; (with_reducible repeat (first | refine blk_drewN ?_ _ | refine blk_drew ?_ | refine blk_alloc ?_ _)); refine blk_put (cs := #[.int .i64 0, .int .i64 0, .int .i64 0]) ?_ 1 _ rfl; (with_reducible repeat (first | refine blk_drewN ?_ _ | refine blk_drew ?_ | refine blk_alloc ?_ _)); refine blk_put (cs := #[.int .i64 0, .int .i64 0, .int .i64 0]) ?_ 0 _ rfl; (with_reducible repeat (first | refine blk_drewN ?_ _ | refine blk_drew ?_ | refine blk_alloc ?_ _)); exact BK301.out) Try.underlying35 rfl (by kernel_rfl)) rfl ?_
  exact ⟨_, by first | rfl | (simp [errW_none, errW_some] <;> rfl) | (simp [*, errW_none, errW_some] <;> rfl), by first | exact Kd.R_nil _ _ _ _ _ | exact Kd.N_nil _ _ _ _ _ | exact Kd.V_nil _ _ _ _ _ | exact Kd.Q_nil _ _ _ _ _ | exact Kd.S_nil _ _ _ _ _, by repeat (first | (with_reducible first | exact HB.out | apply below_alloc | apply pw_below_drewN | apply below_drew1 | refine below_set ?_ GE301.out) | exact HB.out)⟩
 ·rw [if_neg c2] at H
  have c2b0 : decide (65536 < (a0.size : Int)) = false := decide_eq_false c2
  have c2b1 : decide (65536 < a0.size) = false := decide_eq_false (by omega)
  clear c2
  have H' := Aside0.mk H
  clear H
  go_enter Try.func20, Try.ntmps20
  go_wp2_with (first | ((with_reducible refine gate_dst (N := 3) rfl ?_); refine box_event ?hg (N := 3) ?hd (cs := #[.int .i64 0, .int .i64 0, .int .i64 0]) (t := 35) ?hr ?_; (case hd => rfl); (case hg => rfl); (case hr => first | (go_simp; done) | (go_simp; rfl)); intro gb301 hg w5 hbox hb; have n0_ := Aside0.mk (below_step (by repeat (first | (with_reducible first | exact HB.out | apply below_alloc | apply pw_below_drewN | apply below_drew1) | exact HB.out)) hb); have n1_ := Aside0.mk (hbox); have n2_ := Aside0.mk ((by rw [hg]; exact (below_size (by repeat (first | (with_reducible first | exact HB.out | apply below_alloc | apply pw_below_drewN | apply below_drew1) | exact HB.out))) : w.heap.size ≤ gb301)); have n3_ := Aside0.mk ((by rw [hg]; exact (below_size (by repeat (first | (with_reducible first | exact HB.out | apply below_alloc | apply pw_below_drewN | apply below_drew1) | exact HB.out))) : w.heap.size ≤ gb301)); clear HB; have HB := n0_; have BK301 := n1_; have GW301 := n2_; have GE301 := n3_; clear n0_ n1_ n2_ n3_; clear hb hbox hg))
  go_loopg [4, 5] k (fun kq v4 v5 w' => ∃ (x4_1 : List (S102)) (x5_1 : Int) (x302000_1 : Int) (x302001_1 : Int) (x302002_1 : Int), v5 = .int .i64 x5_1 ∧ Aside0 (primerref04_Scan.l0 kq a0 x4_1 x5_1 = some (r1, r2, r3, r4)) ∧ Aside0 (kq ≤ k) ∧ Aside0 (Kd.R k102 102 w' w.heap.size (fun _ => True) v4 x4_1) ∧ Aside0 (w'.heap[gb301]? = some (.cells #[.int .i64 x302000_1, .int .i64 x302001_1, .int .i64 x302002_1] 35 (0, 0))) ∧ Aside0 (Below w.heap.size w w'))
  case atStart => exact ⟨(([] : List (S102))), (0), (0), (0), (0), (by first | rfl | (simp; done) | (simp [*]; done)), H', ⟨Nat.le_refl _⟩, ⟨by first | exact Kd.R_nil _ _ _ _ _ | exact Kd.N_nil _ _ _ _ _ | exact Kd.V_nil _ _ _ _ _ | exact Kd.Q_nil _ _ _ _ _ | exact Kd.S_nil _ _ _ _ _⟩, ⟨by (with_reducible repeat (first | refine blk_drewN ?_ _ | refine blk_drew ?_ | refine blk_alloc ?_ _)); exact BK301.out⟩, ⟨by repeat (first | (with_reducible first | exact HB.out | apply below_alloc | apply pw_below_drewN | apply below_drew1 | refine below_set ?_ GE301.out) | exact HB.out)⟩⟩
  case round =>
   clear H'
   try clear c2
   try clear c2b0
   try clear c2b1
   try clear p2
   try clear hcz4_0
   try clear hcz4_1
   try clear hcz4_2
   try clear hfz4_0
   try clear hfz4_1
   try clear hfz4_2
   obtain ⟨x4_1, x5_1, x302000_1, x302001_1, x302002_1, rfl, HA, HK1, HO_4, BK301, HB⟩ := hrel
   cases gk with
   | zero => exact absurd HA.out (by simp [primerref04_Scan.l0])
   | succ k1 =>
    have H := HA.out
    clear HA
    simp only [primerref04_Scan.l0] at H
    by_cases c6 : x5_1 < (a0.size : Int)
    ·rw [if_pos c6] at H
     have c6b0 : decide (x5_1 < (a0.size : Int)) = true := decide_eq_true c6
     clear c6
     by_cases c7 : 0 ≤ x5_1
     ·rw [if_pos c7] at H
      have c7b0 : decide (0 ≤ x5_1) = true := decide_eq_true c7
      clear c7
      replace H := Option.bind_eq_some_iff.mp H
      obtain ⟨⟨t307, t308⟩, A90, H⟩ := H
      replace H : (if (bt a0 x5_1) = 32 then (primerref04_Scan.j1 k1 a0 x4_1 x5_1 (bt a0 x5_1) t307 t308 true) else (if (bt a0 x5_1) = 9 then (primerref04_Scan.j1 k1 a0 x4_1 x5_1 (bt a0 x5_1) t307 t308 true) else (if (bt a0 x5_1) = 10 then (primerref04_Scan.j1 k1 a0 x4_1 x5_1 (bt a0 x5_1) t307 t308 true) else (primerref04_Scan.j1 k1 a0 x4_1 x5_1 (bt a0 x5_1) t307 t308 ((bt a0 x5_1) == 13))))) = some (r1, r2, r3, r4) := H
      have A9 := Aside0.mk A90
      clear A90
      have HC10 := Aside0.mk H
      clear H
      have p8 : 0 ≤ (x5_1 : Int) := of_decide_eq_true (by first | (with_reducible assumption) | assumption)
      have q8 : x5_1 < (a0.size : Int) := of_decide_eq_true (by first | (with_reducible assumption) | assumption)
      have hx8 := bt_at a0 x5_1
      replace p8 := eq_true p8
      replace q8 := eq_true q8
      go_upto_region 8 with (first | ((with_reducible refine gate_callee (f := 48) rfl ?_); refine goesL_ (some 32) rfl rfl Try.func48 (by kernel_rfl) rfl #[.string a0, .int .i64 x5_1] rfl (by (try simp only [List.map_toArray, List.map_cons, List.map_nil]); first | done | rfl | (simp only [List.length_drop, List.length_take]; rfl)) ?_; (with_reducible refine (primerref04_Place.calls k1 a0 x5_1 t307 t308 _ A9.out).mono ?_); rintro e w' ⟨rfl, ⟨nd, rfl⟩⟩; refine ⟨_, rfl, ?_⟩))
      (try simp only [Act.put, List.setIfInBounds_toArray, List.set_cons_zero, List.set_cons_succ])
      go_cut [48] (fun v48 wc => ∃ (kq : Nat) (x48_9 : Bool), v48 = .bool x48_9 ∧ Aside0 (primerref04_Scan.j1 kq a0 x4_1 x5_1 (bt a0 x5_1) t307 t308 x48_9 = some (r1, r2, r3, r4)) ∧ Aside0 (kq ≤ k1) ∧ Aside0 (Kd.R k102 102 wc w.heap.size (fun _ => True) u4 x4_1) ∧ Aside0 (wc.heap[gb301]? = some (.cells #[.int .i64 x302000_1, .int .i64 x302001_1, .int .i64 x302002_1] 35 (0, 0))) ∧ Aside0 (Below w.heap.size w wc))
      case first =>
       have H := HC10.out
       clear HC10
       by_cases c11 : (bt a0 x5_1) = 32
       ·rw [if_pos c11] at H
        have c11b0 : ((bt a0 x5_1) == 32) = true := beq_iff_eq.mpr c11
        have c11b1 : ((bt a0 x5_1) != 32) = false := bne_eq_false_iff_eq.mpr c11
        clear c11
        (first | rw [c11b0] | (simp only [i64_w, i32_w]; rw [c11b0]) | skip)
        have H' := Aside0.mk H
        clear H
        go_wp2
        go_meet
        case rel => exact ⟨_, (true), (by first | rfl | (simp; done) | (simp [*]; done)), H', ⟨by have := HK1.out; first | omega | exact Nat.le_refl _⟩, ⟨by (with_reducible repeat (first | apply Kd.R_alloc | apply Kd.R_drewN | apply Kd.R_drew)); exact HO_4.out⟩, ⟨by (with_reducible repeat (first | refine blk_drewN ?_ _ | refine blk_drew ?_ | refine blk_alloc ?_ _)); exact BK301.out⟩, ⟨by repeat (first | (with_reducible first | exact HB.out | apply below_alloc | apply pw_below_drewN | apply below_drew1 | refine below_set ?_ GE301.out) | exact HB.out)⟩⟩
       ·rw [if_neg c11] at H
        have c11b0 : ((bt a0 x5_1) == 32) = false := beq_eq_false_iff_ne.mpr c11
        have c11b1 : ((bt a0 x5_1) != 32) = true := bne_iff_ne.mpr c11
        (first | rw [c11b0] | (simp only [i64_w, i32_w]; rw [c11b0]) | skip)
        by_cases c12 : (bt a0 x5_1) = 9
        ·rw [if_pos c12] at H
         have c12b0 : ((bt a0 x5_1) == 9) = true := beq_iff_eq.mpr c12
         have c12b1 : ((bt a0 x5_1) != 9) = false := bne_eq_false_iff_eq.mpr c12
         clear c12
         have H' := Aside0.mk H
         clear H
         go_wp2
         go_meet
         case rel => exact ⟨_, (true), (by first | rfl | (simp; done) | (simp [*]; done)), H', ⟨by have := HK1.out; first | omega | exact Nat.le_refl _⟩, ⟨by (with_reducible repeat (first | apply Kd.R_alloc | apply Kd.R_drewN | apply Kd.R_drew)); exact HO_4.out⟩, ⟨by (with_reducible repeat (first | refine blk_drewN ?_ _ | refine blk_drew ?_ | refine blk_alloc ?_ _)); exact BK301.out⟩, ⟨by repeat (first | (with_reducible first | exact HB.out | apply below_alloc | apply pw_below_drewN | apply below_drew1 | refine below_set ?_ GE301.out) | exact HB.out)⟩⟩
        ·rw [if_neg c12] at H
         have c12b0 : ((bt a0 x5_1) == 9) = false := beq_eq_false_iff_ne.mpr c12
         have c12b1 : ((bt a0 x5_1) != 9) = true := bne_iff_ne.mpr c12
         by_cases c13 : (bt a0 x5_1) = 10
         ·rw [if_pos c13] at H
          have c13b0 : ((bt a0 x5_1) == 10) = true := beq_iff_eq.mpr c13
          have c13b1 : ((bt a0 x5_1) != 10) = false := bne_eq_false_iff_eq.mpr c13
          clear c13
          have H' := Aside0.mk H
          clear H
          go_wp2
          go_meet
          case rel => exact ⟨_, (true), (by first | rfl | (simp; done) | (simp [*]; done)), H', ⟨by have := HK1.out; first | omega | exact Nat.le_refl _⟩, ⟨by (with_reducible repeat (first | apply Kd.R_alloc | apply Kd.R_drewN | apply Kd.R_drew)); exact HO_4.out⟩, ⟨by (with_reducible repeat (first | refine blk_drewN ?_ _ | refine blk_drew ?_ | refine blk_alloc ?_ _)); exact BK301.out⟩, ⟨by repeat (first | (with_reducible first | exact HB.out | apply below_alloc | apply pw_below_drewN | apply below_drew1 | refine below_set ?_ GE301.out) | exact HB.out)⟩⟩
         ·rw [if_neg c13] at H
          have c13b0 : ((bt a0 x5_1) == 10) = false := beq_eq_false_iff_ne.mpr c13
          have c13b1 : ((bt a0 x5_1) != 10) = true := bne_iff_ne.mpr c13
          have H' := Aside0.mk H
          clear H
          go_wp2
          go_meet
          case rel => exact ⟨_, (((bt a0 x5_1) == 13)), (by first | rfl | (simp; done) | (simp [*]; done)), H', ⟨by have := HK1.out; first | omega | exact Nat.le_refl _⟩, ⟨by (with_reducible repeat (first | apply Kd.R_alloc | apply Kd.R_drewN | apply Kd.R_drew)); exact HO_4.out⟩, ⟨by (with_reducible repeat (first | refine blk_drewN ?_ _ | refine blk_drew ?_ | refine blk_alloc ?_ _)); exact BK301.out⟩, ⟨by repeat (first | (with_reducible first | exact HB.out | apply below_alloc | apply pw_below_drewN | apply below_drew1 | refine below_set ?_ GE301.out) | exact HB.out)⟩⟩
      case rest =>
       clear HC10
       try clear c1
       try clear c2
       try clear c2b0
       try clear c2b1
       try clear p2
       try clear c4
       try clear c6
       try clear c6b0
       try clear c7
       try clear c7b0
       try clear p8
       try clear q8
       try clear hx8
       try clear c11
       try clear c11b0
       try clear c11b1
       try clear c12
       try clear c12b0
       try clear c12b1
       try clear c13
       try clear c13b0
       try clear c13b1
       try clear hcz4_0
       try clear hcz4_1
       try clear hcz4_2
       try clear hfz4_0
       try clear hfz4_1
       try clear hfz4_2
       try clear p2
       try clear p8
       try clear q8
       obtain ⟨kq, x48_9, rfl, HA, HJ9, HO_4, BK301, HB⟩ := hcut
       cases kq with
       | zero => exact absurd HA.out (by simp [primerref04_Scan.j1])
       | succ kj9 =>
        have H := HA.out
        clear HA
        simp only [primerref04_Scan.j1] at H
        by_cases c14 : x48_9 = true
        ·subst c14
         have H1 : (primerref04_Scan.l0 kj9 a0 x4_1 (wrap64 (x5_1 + 1))) = some (r1, r2, r3, r4) := by rw [if_pos rfl] at H; exact H
         clear H
         have H := H1
         clear H1
         have H' := Aside0.mk H
         clear H
         go_wp2
         go_roundg kj9
         case measure => have := HK1.out; have := HJ9.out; omega
         case rel => exact ⟨(x4_1), (wrap64 (x5_1 + 1)), (x302000_1), (x302001_1), (x302002_1), (by first | rfl | (simp; done) | (simp [*]; done)), H', ⟨by have := HK1.out; have := HJ9.out; omega⟩, ⟨by (with_reducible repeat (first | apply Kd.R_alloc | apply Kd.R_drewN | apply Kd.R_drew)); exact HO_4.out⟩, ⟨by (with_reducible repeat (first | refine blk_drewN ?_ _ | refine blk_drew ?_ | refine blk_alloc ?_ _)); exact BK301.out⟩, ⟨by repeat (first | (with_reducible first | exact HB.out | apply below_alloc | apply pw_below_drewN | apply below_drew1 | refine below_set ?_ GE301.out) | exact HB.out)⟩⟩
        ·replace c14 := Bool.eq_false_iff.mpr c14
         subst c14
         have H1 : (if (bt a0 x5_1) = 35 then (primerref04_Scan.l1 kj9 a0 x4_1 x5_1) else ((primerref04_letter.f (bt a0 x5_1)).bind fun t309 => (if t309 = true then (primerref04_Scan.l2 kj9 a0 x4_1 x5_1 t307 t308 x5_1) else (if (bt a0 x5_1) = 39 then (primerref04_Scan.j4 kj9 a0 x4_1 x5_1 (bt a0 x5_1) t307 t308 true) else (primerref04_Scan.j4 kj9 a0 x4_1 x5_1 (bt a0 x5_1) t307 t308 ((bt a0 x5_1) == 34)))))) = some (r1, r2, r3, r4) := by rw [if_neg (show ¬ (false = true) by decide)] at H; exact H
         clear H
         have H := H1
         clear H1
         by_cases c15 : (bt a0 x5_1) = 35
         ·rw [if_pos c15] at H
          have c15b0 : ((bt a0 x5_1) == 35) = true := beq_iff_eq.mpr c15
          have c15b1 : ((bt a0 x5_1) != 35) = false := bne_eq_false_iff_eq.mpr c15
          clear c15
          have H' := Aside0.mk H
          clear H
          go_wp2
          go_loopg [5] kj9 (fun kq v5 w' => ∃ (x5_3 : Int), v5 = .int .i64 x5_3 ∧ Aside0 (primerref04_Scan.l1 kq a0 x4_1 x5_3 = some (r1, r2, r3, r4)) ∧ Aside0 (kq ≤ kj9) ∧ Aside0 (Kd.R k102 102 w' w.heap.size (fun _ => True) u4 x4_1) ∧ Aside0 (w'.heap[gb301]? = some (.cells #[.int .i64 x302000_1, .int .i64 x302001_1, .int .i64 x302002_1] 35 (0, 0))) ∧ Aside0 (Below w.heap.size w w'))
          case atStart => exact ⟨(x5_1), (by first | rfl | (simp; done) | (simp [*]; done)), H', ⟨Nat.le_refl _⟩, ⟨by (with_reducible repeat (first | apply Kd.R_alloc | apply Kd.R_drewN | apply Kd.R_drew)); exact HO_4.out⟩, ⟨by (with_reducible repeat (first | refine blk_drewN ?_ _ | refine blk_drew ?_ | refine blk_alloc ?_ _)); exact BK301.out⟩, ⟨by repeat (first | (with_reducible first | exact HB.out | apply below_alloc | apply pw_below_drewN | apply below_drew1 | refine below_set ?_ GE301.out) | exact HB.out)⟩⟩
          case round =>
           clear H'
           try clear c1
           try clear c2
           try clear c2b0
           try clear c2b1
           try clear p2
           try clear c4
           try clear c6
           try clear c6b0
           try clear p6
           try clear c7
           try clear c7b0
           try clear p8
           try clear q8
           try clear hx8
           try clear c11
           try clear c11b0
           try clear c11b1
           try clear c12
           try clear c12b0
           try clear c12b1
           try clear c13
           try clear c13b0
           try clear c13b1
           try clear c14
           try clear c15
           try clear c15b0
           try clear c15b1
           try clear hcz4_0
           try clear hcz4_1
           try clear hcz4_2
           try clear hfz4_0
           try clear hfz4_1
           try clear hfz4_2
           try clear p2
           try clear p8
           try clear q8
           obtain ⟨x5_3, rfl, HA, HK3, HO_4, BK301, HB⟩ := hrel
           cases gk with
           | zero => exact absurd HA.out (by simp [primerref04_Scan.l1])
           | succ k3 =>
            have H := HA.out
            clear HA
            simp only [primerref04_Scan.l1] at H
            by_cases c16 : x5_3 < (a0.size : Int)
            ·rw [if_pos c16] at H
             have c16b0 : decide (x5_3 < (a0.size : Int)) = true := decide_eq_true c16
             clear c16
             by_cases c17 : 0 ≤ x5_3
             ·rw [if_pos c17] at H
              have c17b0 : decide (0 ≤ x5_3) = true := decide_eq_true c17
              clear c17
              by_cases c19 : (bt a0 x5_3) = 10
              ·rw [if_pos c19] at H
               have c19b0 : ((bt a0 x5_3) == 10) = true := beq_iff_eq.mpr c19
               have c19b1 : ((bt a0 x5_3) != 10) = false := bne_eq_false_iff_eq.mpr c19
               clear c19
               have H' := Aside0.mk H
               clear H
               have p18 : 0 ≤ (x5_3 : Int) := of_decide_eq_true (by first | (with_reducible assumption) | assumption)
               have q18 : x5_3 < (a0.size : Int) := of_decide_eq_true (by first | (with_reducible assumption) | assumption)
               have hx18 := bt_at a0 x5_3
               replace p18 := eq_true p18
               replace q18 := eq_true q18
               go_wp2
               go_roundg k3
               case measure => have := HK1.out; have := HJ9.out; have := HK3.out; omega
               case rel => exact ⟨(x4_1), (x5_3), (x302000_1), (x302001_1), (x302002_1), (by first | rfl | (simp; done) | (simp [*]; done)), H', ⟨by have := HK1.out; have := HJ9.out; have := HK3.out; omega⟩, ⟨by (with_reducible repeat (first | apply Kd.R_alloc | apply Kd.R_drewN | apply Kd.R_drew)); exact HO_4.out⟩, ⟨by (with_reducible repeat (first | refine blk_drewN ?_ _ | refine blk_drew ?_ | refine blk_alloc ?_ _)); exact BK301.out⟩, ⟨by repeat (first | (with_reducible first | exact HB.out | apply below_alloc | apply pw_below_drewN | apply below_drew1 | refine below_set ?_ GE301.out) | exact HB.out)⟩⟩
              ·rw [if_neg c19] at H
               have c19b0 : ((bt a0 x5_3) == 10) = false := beq_eq_false_iff_ne.mpr c19
               have c19b1 : ((bt a0 x5_3) != 10) = true := bne_iff_ne.mpr c19
               have H' := Aside0.mk H
               clear H
               have p18 : 0 ≤ (x5_3 : Int) := of_decide_eq_true (by first | (with_reducible assumption) | assumption)
               have q18 : x5_3 < (a0.size : Int) := of_decide_eq_true (by first | (with_reducible assumption) | assumption)
               have hx18 := bt_at a0 x5_3
               replace p18 := eq_true p18
               replace q18 := eq_true q18
               go_wp2
               go_roundg k3
               case measure => have := HK1.out; have := HJ9.out; have := HK3.out; omega
               case rel => exact ⟨(wrap64 (x5_3 + 1)), (by first | rfl | (simp; done) | (simp [*]; done)), H', ⟨by have := HK1.out; have := HJ9.out; have := HK3.out; omega⟩, ⟨by (with_reducible repeat (first | apply Kd.R_alloc | apply Kd.R_drewN | apply Kd.R_drew)); exact HO_4.out⟩, ⟨by (with_reducible repeat (first | refine blk_drewN ?_ _ | refine blk_drew ?_ | refine blk_alloc ?_ _)); exact BK301.out⟩, ⟨by repeat (first | (with_reducible first | exact HB.out | apply below_alloc | apply pw_below_drewN | apply below_drew1 | refine below_set ?_ GE301.out) | exact HB.out)⟩⟩
             ·rw [if_neg c17] at H
              exact absurd H (by simp)
            ·rw [if_neg c16] at H
             have c16b0 : decide (x5_3 < (a0.size : Int)) = false := decide_eq_false c16
             clear c16
             have H' := Aside0.mk H
             clear H
             go_wp2
             go_roundg k3
             case measure => have := HK1.out; have := HJ9.out; have := HK3.out; omega
             case rel => exact ⟨(x4_1), (x5_3), (x302000_1), (x302001_1), (x302002_1), (by first | rfl | (simp; done) | (simp [*]; done)), H', ⟨by have := HK1.out; have := HJ9.out; have := HK3.out; omega⟩, ⟨by (with_reducible repeat (first | apply Kd.R_alloc | apply Kd.R_drewN | apply Kd.R_drew)); exact HO_4.out⟩, ⟨by (with_reducible repeat (first | refine blk_drewN ?_ _ | refine blk_drew ?_ | refine blk_alloc ?_ _)); exact BK301.out⟩, ⟨by repeat (first | (with_reducible first | exact HB.out | apply below_alloc | apply pw_below_drewN | apply below_drew1 | refine below_set ?_ GE301.out) | exact HB.out)⟩⟩
         ·rw [if_neg c15] at H
          have c15b0 : ((bt a0 x5_1) == 35) = false := beq_eq_false_iff_ne.mpr c15
          have c15b1 : ((bt a0 x5_1) != 35) = true := bne_iff_ne.mpr c15
          replace H := Option.bind_eq_some_iff.mp H
          obtain ⟨t309, A200, H⟩ := H
          replace H : (if t309 = true then (primerref04_Scan.l2 kj9 a0 x4_1 x5_1 t307 t308 x5_1) else (if (bt a0 x5_1) = 39 then (primerref04_Scan.j4 kj9 a0 x4_1 x5_1 (bt a0 x5_1) t307 t308 true) else (primerref04_Scan.j4 kj9 a0 x4_1 x5_1 (bt a0 x5_1) t307 t308 ((bt a0 x5_1) == 34)))) = some (r1, r2, r3, r4) := H
          have A20 := Aside0.mk A200
          clear A200
          by_cases c21 : t309 = true
          ·subst c21
           have H1 : (primerref04_Scan.l2 kj9 a0 x4_1 x5_1 t307 t308 x5_1) = some (r1, r2, r3, r4) := by rw [if_pos rfl] at H; exact H
           clear H
           have H := H1
           clear H1
           have H' := Aside0.mk H
           clear H
           go_wp2_with (first | ((with_reducible refine gate_callee (f := 49) rfl ?_); refine goesL_ (some 66) rfl rfl Try.func49 (by kernel_rfl) rfl #[.int .u8 (bt a0 x5_1)] rfl (by (try simp only [List.map_toArray, List.map_cons, List.map_nil]); first | done | rfl | (simp only [List.length_drop, List.length_take]; rfl)) ?_; (with_reducible refine (primerref04_letter.calls (bt a0 x5_1) true _ A20.out).mono ?_); rintro e w' ⟨rfl, ⟨nd, rfl⟩⟩; refine ⟨_, rfl, ?_⟩))
           go_loopg [5] kj9 (fun kq v5 w' => ∃ (x5_3 : Int), v5 = .int .i64 x5_3 ∧ Aside0 (primerref04_Scan.l2 kq a0 x4_1 x5_3 t307 t308 x5_1 = some (r1, r2, r3, r4)) ∧ Aside0 (kq ≤ kj9) ∧ Aside0 (Kd.R k102 102 w' w.heap.size (fun _ => True) u4 x4_1) ∧ Aside0 (w'.heap[gb301]? = some (.cells #[.int .i64 x302000_1, .int .i64 x302001_1, .int .i64 x302002_1] 35 (0, 0))) ∧ Aside0 (Below w.heap.size w w'))
           case atStart => exact ⟨(x5_1), (by first | rfl | (simp; done) | (simp [*]; done)), H', ⟨Nat.le_refl _⟩, ⟨by (with_reducible repeat (first | apply Kd.R_alloc | apply Kd.R_drewN | apply Kd.R_drew)); exact HO_4.out⟩, ⟨by (with_reducible repeat (first | refine blk_drewN ?_ _ | refine blk_drew ?_ | refine blk_alloc ?_ _)); exact BK301.out⟩, ⟨by repeat (first | (with_reducible first | exact HB.out | apply below_alloc | apply pw_below_drewN | apply below_drew1 | refine below_set ?_ GE301.out) | exact HB.out)⟩⟩
           case round =>
            clear H'
            try clear c1
            try clear p1
            try clear q1
            try clear hx1
            try clear c2
            try clear c2b0
            try clear c2b1
            try clear p2
            try clear c4
            try clear c6
            try clear c6b0
            try clear p6
            try clear c7
            try clear c7b0
            try clear p8
            try clear q8
            try clear hx8
            try clear c11
            try clear c11b0
            try clear c11b1
            try clear c12
            try clear c12b0
            try clear c12b1
            try clear c13
            try clear c13b0
            try clear c13b1
            try clear c14
            try clear c15
            try clear c15b0
            try clear c15b1
            try clear c16
            try clear c16b0
            try clear c17
            try clear c17b0
            try clear p18
            try clear q18
            try clear hx18
            try clear c19
            try clear c19b0
            try clear c19b1
            try clear c20
            try clear c21
            try clear hcz4_0
            try clear hcz4_1
            try clear hcz4_2
            try clear hfz4_0
            try clear hfz4_1
            try clear hfz4_2
            try clear p18
            try clear p2
            try clear p6
            try clear p8
            try clear q18
            try clear q8
            obtain ⟨x5_3, rfl, HA, HK3, HO_4, BK301, HB⟩ := hrel
            cases gk with
            | zero => exact absurd HA.out (by simp [primerref04_Scan.l2])
            | succ k3 =>
             have H := HA.out
             clear HA
             simp only [primerref04_Scan.l2] at H
             by_cases c22 : x5_3 < (a0.size : Int)
             ·rw [if_pos c22] at H
              have c22b0 : decide (x5_3 < (a0.size : Int)) = true := decide_eq_true c22
              clear c22
              by_cases c23 : 0 ≤ x5_3
              ·rw [if_pos c23] at H
               have c23b0 : decide (0 ≤ x5_3) = true := decide_eq_true c23
               clear c23
               replace H := Option.bind_eq_some_iff.mp H
               obtain ⟨t310, A250, H⟩ := H
               replace H : (if t310 = true then (primerref04_Scan.l2 k3 a0 x4_1 (wrap64 (x5_3 + 1)) t307 t308 x5_1) else (if (wrap64 (x5_3 - x5_1)) > 32 then (some (([] : List (S102)), t307, t308, 6)) else (if 0 ≤ x5_1 then (if x5_1 ≤ x5_3 then (if x5_3 ≤ (a0.size : Int) then (if x4_1.length < 3518437208883 then (primerref04_Scan.l0 k3 a0 (x4_1 ++ [(⟨1, a0.extract (x5_1 : Int).toNat (x5_3 : Int).toNat, t307, t308⟩ : S102)]) x5_3) else (none)) else (none)) else (none)) else (none)))) = some (r1, r2, r3, r4) := H
               have A25 := Aside0.mk A250
               clear A250
               by_cases c26 : t310 = true
               ·subst c26
                have H1 : (primerref04_Scan.l2 k3 a0 x4_1 (wrap64 (x5_3 + 1)) t307 t308 x5_1) = some (r1, r2, r3, r4) := by rw [if_pos rfl] at H; exact H
                clear H
                have H := H1
                clear H1
                have H' := Aside0.mk H
                clear H
                have p24 : 0 ≤ (x5_3 : Int) := of_decide_eq_true (by first | (with_reducible assumption) | assumption)
                have q24 : x5_3 < (a0.size : Int) := of_decide_eq_true (by first | (with_reducible assumption) | assumption)
                have hx24 := bt_at a0 x5_3
                replace p24 := eq_true p24
                replace q24 := eq_true q24
                go_wp2_with (first | (go_at_call 50; (with_reducible refine (primerref04_rest.calls (bt a0 x5_3) true _ A25.out).mono ?_); rintro e w' ⟨rfl, ⟨nd, rfl⟩⟩))
                go_roundg k3
                case measure => have := HK1.out; have := HJ9.out; have := HK3.out; omega
                case rel => exact ⟨(wrap64 (x5_3 + 1)), (by first | rfl | (simp; done) | (simp [*]; done)), H', ⟨by have := HK1.out; have := HJ9.out; have := HK3.out; omega⟩, ⟨by (with_reducible repeat (first | apply Kd.R_alloc | apply Kd.R_drewN | apply Kd.R_drew)); exact HO_4.out⟩, ⟨by (with_reducible repeat (first | refine blk_drewN ?_ _ | refine blk_drew ?_ | refine blk_alloc ?_ _)); exact BK301.out⟩, ⟨by repeat (first | (with_reducible first | exact HB.out | apply below_alloc | apply pw_below_drewN | apply below_drew1 | refine below_set ?_ GE301.out) | exact HB.out)⟩⟩
               ·replace c26 := Bool.eq_false_iff.mpr c26
                subst c26
                have H1 : (if (wrap64 (x5_3 - x5_1)) > 32 then (some (([] : List (S102)), t307, t308, 6)) else (if 0 ≤ x5_1 then (if x5_1 ≤ x5_3 then (if x5_3 ≤ (a0.size : Int) then (if x4_1.length < 3518437208883 then (primerref04_Scan.l0 k3 a0 (x4_1 ++ [(⟨1, a0.extract (x5_1 : Int).toNat (x5_3 : Int).toNat, t307, t308⟩ : S102)]) x5_3) else (none)) else (none)) else (none)) else (none))) = some (r1, r2, r3, r4) := by rw [if_neg (show ¬ (false = true) by decide)] at H; exact H
                clear H
                have H := H1
                clear H1
                by_cases c27 : (wrap64 (x5_3 - x5_1)) > 32
                ·rw [if_pos c27] at H
                 have c27b0 : decide (32 < (wrap64 (x5_3 - x5_1))) = true := decide_eq_true c27
                 clear c27
                 simp only [Option.some.injEq, Prod.mk.injEq] at H
                 obtain ⟨rfl, rfl, rfl, rfl⟩ := H
                 have p24 : 0 ≤ (x5_3 : Int) := of_decide_eq_true (by first | (with_reducible assumption) | assumption)
                 have q24 : x5_3 < (a0.size : Int) := of_decide_eq_true (by first | (with_reducible assumption) | assumption)
                 have hx24 := bt_at a0 x5_3
                 replace p24 := eq_true p24
                 replace q24 := eq_true q24
                 go_wp2_with (first | (go_at_call 50; (with_reducible refine (primerref04_rest.calls (bt a0 x5_3) false _ A25.out).mono ?_); rintro e w' ⟨rfl, ⟨nd, rfl⟩⟩; (try (rw [drewN_self wr]; generalize hq_ : World.drewN wr _ = wr; have n0_ : Aside0 (Kd.R k102 102 wr w.heap.size (fun _ => True) u4 x4_1) := ⟨by rw [← hq_]; exact (by (with_reducible repeat (first | apply Kd.R_alloc | apply Kd.R_drewN | apply Kd.R_drew)); exact HO_4.out)⟩; have n1_ : Aside0 (wr.heap[gb301]? = some (.cells #[.int .i64 x302000_1, .int .i64 x302001_1, .int .i64 x302002_1] 35 (0, 0))) := ⟨by rw [← hq_]; exact (by (with_reducible repeat (first | refine blk_drewN ?_ _ | refine blk_drew ?_ | refine blk_alloc ?_ _)); exact BK301.out)⟩; have n2_ : Aside0 (Below w.heap.size w wr) := ⟨by rw [← hq_]; exact (by repeat (first | (with_reducible first | exact HB.out | apply below_alloc | apply pw_below_drewN | apply below_drew1 | refine below_set ?_ GE301.out) | exact HB.out))⟩; clear HO_4 BK301 HB hq_; have HO_4 := n0_; have BK301 := n1_; have HB := n2_; clear n0_ n1_ n2_)); have hcz28_0 : wr.cell? ⟨gb301, 0, none⟩ = some (.int .i64 x302000_1) := (blk_cell BK301.out 0).trans rfl; have hcz28_1 : wr.cell? ⟨gb301, 1, none⟩ = some (.int .i64 x302001_1) := (blk_cell BK301.out 1).trans rfl; have hcz28_2 : wr.cell? ⟨gb301, 2, none⟩ = some (.int .i64 x302002_1) := (blk_cell BK301.out 2).trans rfl; have hfz28_0 := blk_frozen BK301.out 0; have hfz28_1 := blk_frozen BK301.out 1; have hfz28_2 := blk_frozen BK301.out 2))
                 refine bodyPost_ret (results_tc rfl _ _ gb301 35 #[.int .i64 t307, .int .i64 t308, .int .i64 6] (0, 0) _ rfl (by (with_reducible repeat (first | refine blk_drewN ?_ _ | refine blk_drew ?_ | refine blk_alloc ?_ _)); refine blk_put (cs := #[.int .i64 t307, .int .i64 t308, .int .i64 x302002_1]) ?_ 2 _ rfl; (with_reducible repeat (first | refine blk_drewN ?_ _ | refine blk_drew ?_ | refine blk_alloc ?_ _)); refine blk_put (cs := #[.int .i64 t307, .int .i64 x302001_1, .int .i64 x302002_1]) ?_ 1 _ rfl; (with_reducible repeat (first | refine blk_drewN ?_ _ | refine blk_drew ?_ | refine blk_alloc ?_ _)); refine blk_put (cs := #[.int .i64 x302000_1, .int .i64 x302001_1, .int .i64 x302002_1]) ?_ 0 _ rfl; (with_reducible repeat (first | refine blk_drewN ?_ _ | refine blk_drew ?_ | refine blk_alloc ?_ _)); exact BK301.out) Try.underlying35 rfl (by kernel_rfl)) rfl ?_
                 exact ⟨_, by first | rfl | (simp [errW_none, errW_some] <;> rfl) | (simp [*, errW_none, errW_some] <;> rfl), by first | exact Kd.R_nil _ _ _ _ _ | exact Kd.N_nil _ _ _ _ _ | exact Kd.V_nil _ _ _ _ _ | exact Kd.Q_nil _ _ _ _ _ | exact Kd.S_nil _ _ _ _ _, by repeat (first | (with_reducible first | exact HB.out | apply below_alloc | apply pw_below_drewN | apply below_drew1 | refine below_set ?_ GE301.out) | exact HB.out)⟩
                ·rw [if_neg c27] at H
                 have c27b0 : decide (32 < (wrap64 (x5_3 - x5_1))) = false := decide_eq_false c27
                 clear c27
                 by_cases c29 : 0 ≤ x5_1
                 ·rw [if_pos c29] at H
                  have c29b0 := eq_true c29
                  have c29b1 : decide (0 ≤ x5_1) = true := decide_eq_true c29
                  clear c29
                  by_cases c30 : x5_1 ≤ x5_3
                  ·rw [if_pos c30] at H
                   have c30b0 := eq_true c30
                   have c30b1 : decide (x5_1 ≤ x5_3) = true := decide_eq_true c30
                   clear c30
                   by_cases c31 : x5_3 ≤ (a0.size : Int)
                   ·rw [if_pos c31] at H
                    have c31b0 := eq_true c31
                    have c31b1 : decide (x5_3 ≤ (a0.size : Int)) = true := decide_eq_true c31
                    clear c31
                    by_cases c32 : x4_1.length < 3518437208883
                    ·rw [if_pos c32] at H
                     have LMc32 := Aside0.mk c32
                     clear c32
                     obtain ⟨y311, hy311⟩ : ∃ y_ : List (S102), y_ = (x4_1 ++ [(⟨1, a0.extract (x5_1 : Int).toNat (x5_3 : Int).toNat, t307, t308⟩ : S102)]) := ⟨_, rfl⟩
                     replace H : (primerref04_Scan.l0 k3 a0 y311 x5_3) = some (r1, r2, r3, r4) := by first | (rw [hy311]; with_reducible exact H) | (have H2_ := (Option.bind_some _ _).symm.trans H; rw [hy311]; with_reducible exact H2_) | (have H2_ := (Option.bind_some _ _).symm.trans H; with_reducible exact H2_) | with_reducible exact H | (rw [hy311]; exact H) | exact H
                     have Ny311 := Aside0.mk hy311
                     clear hy311
                     have H' := Aside0.mk H
                     clear H
                     have p24 : 0 ≤ (x5_3 : Int) := of_decide_eq_true (by first | (with_reducible assumption) | assumption)
                     have q24 : x5_3 < (a0.size : Int) := of_decide_eq_true (by first | (with_reducible assumption) | assumption)
                     have hx24 := bt_at a0 x5_3
                     replace p24 := eq_true p24
                     replace q24 := eq_true q24
                     go_wp2_with (first | (go_at_call 50; (with_reducible refine (primerref04_rest.calls (bt a0 x5_3) false _ A25.out).mono ?_); rintro e w' ⟨rfl, ⟨nd, rfl⟩⟩) | ((with_reducible refine gate_builtin (b := .append) (xs := #[.tmp 87, .tmp 95]) rfl ?_); at_builtin; refine Kd.R_append k102 (w0 := w) w.heap.size rfl (.tmp 87) (.tmp 95) 64 102 (.agg #[(.int .i64 0), (.string ⟨#[]⟩), (.int .i64 0), (.int .i64 0)]) 40 rfl Try.underlying64 info102 rfl (by decide) (by omega) u4 x4_1 (⟨1, a0.extract (x5_1 : Int).toNat (x5_3 : Int).toNat, t307, t308⟩ : S102) [.int .i64 1, .string (a0.extract (x5_1 : Int).toNat (x5_3 : Int).toNat), .int .i64 t307, .int .i64 t308] (fun _ => True) (fun _ => False) rfl rfl ?aP (fun _ hk => hk.elim) ?aF ?aO ?aB ?aS ?aL ?_; (case aP => exact k102_mkM _ _ _ (⟨1, a0.extract (x5_1 : Int).toNat (x5_3 : Int).toNat, t307, t308⟩ : S102)); (case aB => exact (by repeat (first | (with_reducible first | exact HB.out | apply below_alloc | apply pw_below_drewN | apply below_drew1 | refine below_set ?_ GE301.out) | exact HB.out))); (case aF => exact (fun _ _ => trivial)); (case aO => exact (by (with_reducible repeat (first | apply Kd.R_alloc | apply Kd.R_drewN | apply Kd.R_drew)); exact HO_4.out)); (case aS => exact (below_size (by repeat (first | (with_reducible first | exact HB.out | apply below_alloc | apply pw_below_drewN | apply below_drew1 | refine below_set ?_ GE301.out) | exact HB.out)))); (case aL => have := LMc32.out; omega); intro v312 w33 ho hb hg hat; rw [← Ny311.out] at ho; have n0_ := Aside0.mk (blk_grown (g := gb301) (o := .cells #[.int .i64 x302000_1, .int .i64 x302001_1, .int .i64 x302002_1] 35 (0, 0)) (by (with_reducible repeat (first | refine blk_drewN ?_ _ | refine blk_drew ?_ | refine blk_alloc ?_ _)); exact BK301.out) hg (Kd.R_ne HO_4.out BK301.out (by decide))); have n1_ := Aside0.mk (hb); have n2_ := Aside0.mk (ho); clear BK301; clear HB; clear HO_4; have BK301 := n0_; have HB := n1_; have HO313 := n2_; clear n0_ n1_ n2_; clear ho hb hg hat))
                     go_roundg k3
                     case measure => have := HK1.out; have := HJ9.out; have := HK3.out; omega
                     case rel => exact ⟨(y311), (x5_3), (x302000_1), (x302001_1), (x302002_1), (by first | rfl | (simp; done) | (simp [*]; done)), H', ⟨by have := HK1.out; have := HJ9.out; have := HK3.out; omega⟩, ⟨by (with_reducible repeat (first | apply Kd.R_alloc | apply Kd.R_drewN | apply Kd.R_drew)); exact HO313.out⟩, ⟨by (with_reducible repeat (first | refine blk_drewN ?_ _ | refine blk_drew ?_ | refine blk_alloc ?_ _)); exact BK301.out⟩, ⟨by repeat (first | (with_reducible first | exact HB.out | apply below_alloc | apply pw_below_drewN | apply below_drew1 | refine below_set ?_ GE301.out) | exact HB.out)⟩⟩
                    ·rw [if_neg c32] at H
                     exact absurd H (by simp)
                   ·rw [if_neg c31] at H
                    exact absurd H (by simp)
                  ·rw [if_neg c30] at H
                   exact absurd H (by simp)
                 ·rw [if_neg c29] at H
                  exact absurd H (by simp)
              ·rw [if_neg c23] at H
               exact absurd H (by simp)
             ·rw [if_neg c22] at H
              have c22b0 : decide (x5_3 < (a0.size : Int)) = false := decide_eq_false c22
              clear c22
              by_cases c34 : (wrap64 (x5_3 - x5_1)) > 32
              ·rw [if_pos c34] at H
               have c34b0 : decide (32 < (wrap64 (x5_3 - x5_1))) = true := decide_eq_true c34
               clear c34
               simp only [Option.some.injEq, Prod.mk.injEq] at H
               obtain ⟨rfl, rfl, rfl, rfl⟩ := H
               have hcz35_0 : wr.cell? ⟨gb301, 0, none⟩ = some (.int .i64 x302000_1) := (blk_cell BK301.out 0).trans rfl
               have hcz35_1 : wr.cell? ⟨gb301, 1, none⟩ = some (.int .i64 x302001_1) := (blk_cell BK301.out 1).trans rfl
               have hcz35_2 : wr.cell? ⟨gb301, 2, none⟩ = some (.int .i64 x302002_1) := (blk_cell BK301.out 2).trans rfl
               have hfz35_0 := blk_frozen BK301.out 0
               have hfz35_1 := blk_frozen BK301.out 1
               have hfz35_2 := blk_frozen BK301.out 2
               go_wp2
               refine bodyPost_ret (results_tc rfl _ _ gb301 35 #[.int .i64 t307, .int .i64 t308, .int .i64 6] (0, 0) _ rfl (by (with_reducible repeat (first | refine blk_drewN ?_ _ | refine blk_drew ?_ | refine blk_alloc ?_ _)); refine blk_put (cs := #[.int .i64 t307, .int .i64 t308, .int .i64 x302002_1]) ?_ 2 _ rfl; (with_reducible repeat (first | refine blk_drewN ?_ _ | refine blk_drew ?_ | refine blk_alloc ?_ _)); refine blk_put (cs := #[.int .i64 t307, .int .i64 x302001_1, .int .i64 x302002_1]) ?_ 1 _ rfl; (with_reducible repeat (first | refine blk_drewN ?_ _ | refine blk_drew ?_ | refine blk_alloc ?_ _)); refine blk_put (cs := #[.int .i64 x302000_1, .int .i64 x302001_1, .int .i64 x302002_1]) ?_ 0 _ rfl; (with_reducible repeat (first | refine blk_drewN ?_ _ | refine blk_drew ?_ | refine blk_alloc ?_ _)); exact BK301.out) Try.underlying35 rfl (by kernel_rfl)) rfl ?_
               exact ⟨_, by first | rfl | (simp [errW_none, errW_some] <;> rfl) | (simp [*, errW_none, errW_some] <;> rfl), by first | exact Kd.R_nil _ _ _ _ _ | exact Kd.N_nil _ _ _ _ _ | exact Kd.V_nil _ _ _ _ _ | exact Kd.Q_nil _ _ _ _ _ | exact Kd.S_nil _ _ _ _ _, by repeat (first | (with_reducible first | exact HB.out | apply below_alloc | apply pw_below_drewN | apply below_drew1 | refine below_set ?_ GE301.out) | exact HB.out)⟩
              ·rw [if_neg c34] at H
               have c34b0 : decide (32 < (wrap64 (x5_3 - x5_1))) = false := decide_eq_false c34
               clear c34
               by_cases c36 : 0 ≤ x5_1
               ·rw [if_pos c36] at H
                have c36b0 := eq_true c36
                have c36b1 : decide (0 ≤ x5_1) = true := decide_eq_true c36
                clear c36
                by_cases c37 : x5_1 ≤ x5_3
                ·rw [if_pos c37] at H
                 have c37b0 := eq_true c37
                 have c37b1 : decide (x5_1 ≤ x5_3) = true := decide_eq_true c37
                 clear c37
                 by_cases c38 : x5_3 ≤ (a0.size : Int)
                 ·rw [if_pos c38] at H
                  have c38b0 := eq_true c38
                  have c38b1 : decide (x5_3 ≤ (a0.size : Int)) = true := decide_eq_true c38
                  clear c38
                  by_cases c39 : x4_1.length < 3518437208883
                  ·rw [if_pos c39] at H
                   have LMc39 := Aside0.mk c39
                   clear c39
                   obtain ⟨y314, hy314⟩ : ∃ y_ : List (S102), y_ = (x4_1 ++ [(⟨1, a0.extract (x5_1 : Int).toNat (x5_3 : Int).toNat, t307, t308⟩ : S102)]) := ⟨_, rfl⟩
                   replace H : (primerref04_Scan.l0 k3 a0 y314 x5_3) = some (r1, r2, r3, r4) := by first | (rw [hy314]; with_reducible exact H) | (have H2_ := (Option.bind_some _ _).symm.trans H; rw [hy314]; with_reducible exact H2_) | (have H2_ := (Option.bind_some _ _).symm.trans H; with_reducible exact H2_) | with_reducible exact H | (rw [hy314]; exact H) | exact H
                   have Ny314 := Aside0.mk hy314
                   clear hy314
                   have H' := Aside0.mk H
                   clear H
                   go_wp2_with (first | ((with_reducible refine gate_builtin (b := .append) (xs := #[.tmp 87, .tmp 95]) rfl ?_); at_builtin; refine Kd.R_append k102 (w0 := w) w.heap.size rfl (.tmp 87) (.tmp 95) 64 102 (.agg #[(.int .i64 0), (.string ⟨#[]⟩), (.int .i64 0), (.int .i64 0)]) 40 rfl Try.underlying64 info102 rfl (by decide) (by omega) u4 x4_1 (⟨1, a0.extract (x5_1 : Int).toNat (x5_3 : Int).toNat, t307, t308⟩ : S102) [.int .i64 1, .string (a0.extract (x5_1 : Int).toNat (x5_3 : Int).toNat), .int .i64 t307, .int .i64 t308] (fun _ => True) (fun _ => False) rfl rfl ?aP (fun _ hk => hk.elim) ?aF ?aO ?aB ?aS ?aL ?_; (case aP => exact k102_mkM _ _ _ (⟨1, a0.extract (x5_1 : Int).toNat (x5_3 : Int).toNat, t307, t308⟩ : S102)); (case aB => exact (by repeat (first | (with_reducible first | exact HB.out | apply below_alloc | apply pw_below_drewN | apply below_drew1 | refine below_set ?_ GE301.out) | exact HB.out))); (case aF => exact (fun _ _ => trivial)); (case aO => exact (by (with_reducible repeat (first | apply Kd.R_alloc | apply Kd.R_drewN | apply Kd.R_drew)); exact HO_4.out)); (case aS => exact (below_size (by repeat (first | (with_reducible first | exact HB.out | apply below_alloc | apply pw_below_drewN | apply below_drew1 | refine below_set ?_ GE301.out) | exact HB.out)))); (case aL => have := LMc39.out; omega); intro v315 w40 ho hb hg hat; rw [← Ny314.out] at ho; have n0_ := Aside0.mk (blk_grown (g := gb301) (o := .cells #[.int .i64 x302000_1, .int .i64 x302001_1, .int .i64 x302002_1] 35 (0, 0)) (by (with_reducible repeat (first | refine blk_drewN ?_ _ | refine blk_drew ?_ | refine blk_alloc ?_ _)); exact BK301.out) hg (Kd.R_ne HO_4.out BK301.out (by decide))); have n1_ := Aside0.mk (hb); have n2_ := Aside0.mk (ho); clear BK301; clear HB; clear HO_4; have BK301 := n0_; have HB := n1_; have HO316 := n2_; clear n0_ n1_ n2_; clear ho hb hg hat))
                   go_roundg k3
                   case measure => have := HK1.out; have := HJ9.out; have := HK3.out; omega
                   case rel => exact ⟨(y314), (x5_3), (x302000_1), (x302001_1), (x302002_1), (by first | rfl | (simp; done) | (simp [*]; done)), H', ⟨by have := HK1.out; have := HJ9.out; have := HK3.out; omega⟩, ⟨by (with_reducible repeat (first | apply Kd.R_alloc | apply Kd.R_drewN | apply Kd.R_drew)); exact HO316.out⟩, ⟨by (with_reducible repeat (first | refine blk_drewN ?_ _ | refine blk_drew ?_ | refine blk_alloc ?_ _)); exact BK301.out⟩, ⟨by repeat (first | (with_reducible first | exact HB.out | apply below_alloc | apply pw_below_drewN | apply below_drew1 | refine below_set ?_ GE301.out) | exact HB.out)⟩⟩
                  ·rw [if_neg c39] at H
                   exact absurd H (by simp)
                 ·rw [if_neg c38] at H
                  exact absurd H (by simp)
                ·rw [if_neg c37] at H
                 exact absurd H (by simp)
               ·rw [if_neg c36] at H
                exact absurd H (by simp)
          ·replace c21 := Bool.eq_false_iff.mpr c21
           subst c21
           have H1 : (if (bt a0 x5_1) = 39 then (primerref04_Scan.j4 kj9 a0 x4_1 x5_1 (bt a0 x5_1) t307 t308 true) else (primerref04_Scan.j4 kj9 a0 x4_1 x5_1 (bt a0 x5_1) t307 t308 ((bt a0 x5_1) == 34))) = some (r1, r2, r3, r4) := by rw [if_neg (show ¬ (false = true) by decide)] at H; exact H
           clear H
           have H := H1
           clear H1
           have HC41 := Aside0.mk H
           clear H
           go_upto_region 20 with (first | ((with_reducible refine gate_callee (f := 49) rfl ?_); refine goesL_ (some 66) rfl rfl Try.func49 (by kernel_rfl) rfl #[.int .u8 (bt a0 x5_1)] rfl (by (try simp only [List.map_toArray, List.map_cons, List.map_nil]); first | done | rfl | (simp only [List.length_drop, List.length_take]; rfl)) ?_; (with_reducible refine (primerref04_letter.calls (bt a0 x5_1) false _ A20.out).mono ?_); rintro e w' ⟨rfl, ⟨nd, rfl⟩⟩; refine ⟨_, rfl, ?_⟩))
           (try simp only [Act.put, List.setIfInBounds_toArray, List.set_cons_zero, List.set_cons_succ])
           go_cut [102] (fun v102 wc => ∃ (kq : Nat) (x102_40 : Bool), v102 = .bool x102_40 ∧ Aside0 (primerref04_Scan.j4 kq a0 x4_1 x5_1 (bt a0 x5_1) t307 t308 x102_40 = some (r1, r2, r3, r4)) ∧ Aside0 (kq ≤ kj9) ∧ Aside0 (Kd.R k102 102 wc w.heap.size (fun _ => True) u4 x4_1) ∧ Aside0 (wc.heap[gb301]? = some (.cells #[.int .i64 x302000_1, .int .i64 x302001_1, .int .i64 x302002_1] 35 (0, 0))) ∧ Aside0 (Below w.heap.size w wc))
           case first =>
            have H := HC41.out
            clear HC41
            by_cases c42 : (bt a0 x5_1) = 39
            ·rw [if_pos c42] at H
             have c42b0 : ((bt a0 x5_1) == 39) = true := beq_iff_eq.mpr c42
             have c42b1 : ((bt a0 x5_1) != 39) = false := bne_eq_false_iff_eq.mpr c42
             clear c42
             (first | rw [c42b0] | (simp only [i64_w, i32_w]; rw [c42b0]) | skip)
             have H' := Aside0.mk H
             clear H
             go_wp2
             go_meet
             case rel => exact ⟨_, (true), (by first | rfl | (simp; done) | (simp [*]; done)), H', ⟨by have := HK1.out; have := HJ9.out; first | omega | exact Nat.le_refl _⟩, ⟨by (with_reducible repeat (first | apply Kd.R_alloc | apply Kd.R_drewN | apply Kd.R_drew)); exact HO_4.out⟩, ⟨by (with_reducible repeat (first | refine blk_drewN ?_ _ | refine blk_drew ?_ | refine blk_alloc ?_ _)); exact BK301.out⟩, ⟨by repeat (first | (with_reducible first | exact HB.out | apply below_alloc | apply pw_below_drewN | apply below_drew1 | refine below_set ?_ GE301.out) | exact HB.out)⟩⟩
            ·rw [if_neg c42] at H
             have c42b0 : ((bt a0 x5_1) == 39) = false := beq_eq_false_iff_ne.mpr c42
             have c42b1 : ((bt a0 x5_1) != 39) = true := bne_iff_ne.mpr c42
             (first | rw [c42b0] | (simp only [i64_w, i32_w]; rw [c42b0]) | skip)
             have H' := Aside0.mk H
             clear H
             go_wp2
             go_meet
             case rel => exact ⟨_, (((bt a0 x5_1) == 34)), (by first | rfl | (simp; done) | (simp [*]; done)), H', ⟨by have := HK1.out; have := HJ9.out; first | omega | exact Nat.le_refl _⟩, ⟨by (with_reducible repeat (first | apply Kd.R_alloc | apply Kd.R_drewN | apply Kd.R_drew)); exact HO_4.out⟩, ⟨by (with_reducible repeat (first | refine blk_drewN ?_ _ | refine blk_drew ?_ | refine blk_alloc ?_ _)); exact BK301.out⟩, ⟨by repeat (first | (with_reducible first | exact HB.out | apply below_alloc | apply pw_below_drewN | apply below_drew1 | refine below_set ?_ GE301.out) | exact HB.out)⟩⟩
           case rest =>
            clear HC41
            try clear c1
            try clear p1
            try clear q1
            try clear hx1
            try clear c2
            try clear c2b0
            try clear c2b1
            try clear p2
            try clear q2
            try clear hx2
            try clear c3
            try clear c4
            try clear c6
            try clear c6b0
            try clear p6
            try clear c7
            try clear c7b0
            try clear p8
            try clear q8
            try clear hx8
            try clear c11
            try clear c11b0
            try clear c11b1
            try clear c12
            try clear c12b0
            try clear c12b1
            try clear c13
            try clear c13b0
            try clear c13b1
            try clear c14
            try clear c15
            try clear c15b0
            try clear c15b1
            try clear c16
            try clear c16b0
            try clear c17
            try clear c17b0
            try clear p18
            try clear q18
            try clear hx18
            try clear c19
            try clear c19b0
            try clear c19b1
            try clear c20
            try clear c21
            try clear c22
            try clear c22b0
            try clear c23
            try clear c23b0
            try clear p24
            try clear q24
            try clear hx24
            try clear c26
            try clear c27
            try clear c27b0
            try clear c29
            try clear c29b0
            try clear c29b1
            try clear c30
            try clear c30b0
            try clear c30b1
            try clear c31
            try clear c31b0
            try clear c31b1
            try clear c32
            try clear c34
            try clear c34b0
            try clear c36
            try clear c36b0
            try clear c36b1
            try clear c37
            try clear c37b0
            try clear c37b1
            try clear c38
            try clear c38b0
            try clear c38b1
            try clear c39
            try clear c42
            try clear c42b0
            try clear c42b1
            try clear hcz28_0
            try clear hcz28_1
            try clear hcz28_2
            try clear hcz35_0
            try clear hcz35_1
            try clear hcz35_2
            try clear hcz4_0
            try clear hcz4_1
            try clear hcz4_2
            try clear hfz28_0
            try clear hfz28_1
            try clear hfz28_2
            try clear hfz35_0
            try clear hfz35_1
            try clear hfz35_2
            try clear hfz4_0
            try clear hfz4_1
            try clear hfz4_2
            try clear p1
            try clear p18
            try clear p2
            try clear p24
            try clear p6
            try clear p8
            try clear q1
            try clear q18
            try clear q24
            try clear q8
            obtain ⟨kq, x102_40, rfl, HA, HJ40, HO_4, BK301, HB⟩ := hcut
            cases kq with
            | zero => exact absurd HA.out (by simp [primerref04_Scan.j4])
            | succ kj40 =>
             have H := HA.out
             clear HA
             simp only [primerref04_Scan.j4] at H
             by_cases c43 : x102_40 = true
             ·subst c43
              have H1 : ((primerref04_Literal.f kj40 a0 x5_1).bind fun bt317 => (if bt317.2.2 = true then (if bt317.1.toList = ([] : List UInt8) then (some (([] : List (S102)), t307, t308, 2)) else (if (bt317.1.size : Int) > 16 then (some (([] : List (S102)), t307, t308, 6)) else (if x4_1.length < 3518437208883 then (primerref04_Scan.l0 kj40 a0 (x4_1 ++ [(⟨2, bt317.1, t307, t308⟩ : S102)]) bt317.2.1) else (none)))) else ((primerref04_fault.f kj40 a0 bt317.2.1 2).bind fun bt320 => (some (([] : List (S102)), bt320.1, bt320.2.1, bt320.2.2))))) = some (r1, r2, r3, r4) := by rw [if_pos rfl] at H; exact H
              clear H
              have H := H1
              clear H1
              replace H := Option.bind_eq_some_iff.mp H
              obtain ⟨⟨t317, t318, t319⟩, A440, H⟩ := H
              replace H : (if t319 = true then (if t317.toList = ([] : List UInt8) then (some (([] : List (S102)), t307, t308, 2)) else (if (t317.size : Int) > 16 then (some (([] : List (S102)), t307, t308, 6)) else (if x4_1.length < 3518437208883 then (primerref04_Scan.l0 kj40 a0 (x4_1 ++ [(⟨2, t317, t307, t308⟩ : S102)]) t318) else (none)))) else ((primerref04_fault.f kj40 a0 t318 2).bind fun bt320 => (some (([] : List (S102)), bt320.1, bt320.2.1, bt320.2.2)))) = some (r1, r2, r3, r4) := H
              have A44 := Aside0.mk A440
              clear A440
              by_cases c45 : t319 = true
              ·subst c45
               have H1 : (if t317.toList = ([] : List UInt8) then (some (([] : List (S102)), t307, t308, 2)) else (if (t317.size : Int) > 16 then (some (([] : List (S102)), t307, t308, 6)) else (if x4_1.length < 3518437208883 then (primerref04_Scan.l0 kj40 a0 (x4_1 ++ [(⟨2, t317, t307, t308⟩ : S102)]) t318) else (none)))) = some (r1, r2, r3, r4) := by rw [if_pos rfl] at H; exact H
               clear H
               have H := H1
               clear H1
               by_cases c46 : t317.toList = ([] : List UInt8)
               ·rw [if_pos c46] at H
                have c46b0 : (t317.toList == ([] : List UInt8)) = true := beq_iff_eq.mpr c46
                have c46b1 : (t317.toList != ([] : List UInt8)) = false := bne_eq_false_iff_eq.mpr c46
                clear c46
                simp only [Option.some.injEq, Prod.mk.injEq] at H
                obtain ⟨rfl, rfl, rfl, rfl⟩ := H
                go_wp2_with (first | ((with_reducible refine gate_callee (f := 51) rfl ?_); refine goesL_ (some 106) rfl rfl Try.func51 (by kernel_rfl) rfl #[.string a0, .int .i64 x5_1] rfl (by (try simp only [List.map_toArray, List.map_cons, List.map_nil]); first | done | rfl | (simp only [List.length_drop, List.length_take]; rfl)) ?_; (with_reducible refine (primerref04_Literal.calls kj40 a0 x5_1 t317 t318 true _ A44.out).mono ?_); rintro e w47 ⟨rfl, hb⟩; refine ⟨_, rfl, ?_⟩; have n0_ := Aside0.mk (Kd.R_below (by (with_reducible repeat (first | apply Kd.R_alloc | apply Kd.R_drewN | apply Kd.R_drew)); exact HO_4.out) hb); have n1_ := Aside0.mk (blk_below (g := gb301) (o := .cells #[.int .i64 x302000_1, .int .i64 x302001_1, .int .i64 x302002_1] 35 (0, 0)) (by (with_reducible repeat (first | refine blk_drewN ?_ _ | refine blk_drew ?_ | refine blk_alloc ?_ _)); exact BK301.out) hb); have n2_ := Aside0.mk (below_step (by repeat (first | (with_reducible first | exact HB.out | apply below_alloc | apply pw_below_drewN | apply below_drew1 | refine below_set ?_ GE301.out) | exact HB.out)) hb); clear HO_4; clear BK301; clear HB; have HO_4 := n0_; have BK301 := n1_; have HB := n2_; clear n0_ n1_ n2_; (try clear hb); (try clear hb2); (try clear hk); (try clear hi); have hcz48_0 : w47.cell? ⟨gb301, 0, none⟩ = some (.int .i64 x302000_1) := (blk_cell BK301.out 0).trans rfl; have hcz48_1 : w47.cell? ⟨gb301, 1, none⟩ = some (.int .i64 x302001_1) := (blk_cell BK301.out 1).trans rfl; have hcz48_2 : w47.cell? ⟨gb301, 2, none⟩ = some (.int .i64 x302002_1) := (blk_cell BK301.out 2).trans rfl; have hfz48_0 := blk_frozen BK301.out 0; have hfz48_1 := blk_frozen BK301.out 1; have hfz48_2 := blk_frozen BK301.out 2))
                refine bodyPost_ret (results_tc rfl _ _ gb301 35 #[.int .i64 t307, .int .i64 t308, .int .i64 2] (0, 0) _ rfl (by (with_reducible repeat (first | refine blk_drewN ?_ _ | refine blk_drew ?_ | refine blk_alloc ?_ _)); refine blk_put (cs := #[.int .i64 t307, .int .i64 t308, .int .i64 x302002_1]) ?_ 2 _ rfl; (with_reducible repeat (first | refine blk_drewN ?_ _ | refine blk_drew ?_ | refine blk_alloc ?_ _)); refine blk_put (cs := #[.int .i64 t307, .int .i64 x302001_1, .int .i64 x302002_1]) ?_ 1 _ rfl; (with_reducible repeat (first | refine blk_drewN ?_ _ | refine blk_drew ?_ | refine blk_alloc ?_ _)); refine blk_put (cs := #[.int .i64 x302000_1, .int .i64 x302001_1, .int .i64 x302002_1]) ?_ 0 _ rfl; (with_reducible repeat (first | refine blk_drewN ?_ _ | refine blk_drew ?_ | refine blk_alloc ?_ _)); exact BK301.out) Try.underlying35 rfl (by kernel_rfl)) rfl ?_
                exact ⟨_, by first | rfl | (simp [errW_none, errW_some] <;> rfl) | (simp [*, errW_none, errW_some] <;> rfl), by first | exact Kd.R_nil _ _ _ _ _ | exact Kd.N_nil _ _ _ _ _ | exact Kd.V_nil _ _ _ _ _ | exact Kd.Q_nil _ _ _ _ _ | exact Kd.S_nil _ _ _ _ _, by repeat (first | (with_reducible first | exact HB.out | apply below_alloc | apply pw_below_drewN | apply below_drew1 | refine below_set ?_ GE301.out) | exact HB.out)⟩
               ·rw [if_neg c46] at H
                have c46b0 : (t317.toList == ([] : List UInt8)) = false := beq_eq_false_iff_ne.mpr c46
                have c46b1 : (t317.toList != ([] : List UInt8)) = true := bne_iff_ne.mpr c46
                by_cases c49 : (t317.size : Int) > 16
                ·rw [if_pos c49] at H
                 have c49b0 : decide (16 < (t317.size : Int)) = true := decide_eq_true c49
                 have c49b1 : decide (16 < t317.size) = true := decide_eq_true (by omega)
                 clear c49
                 simp only [Option.some.injEq, Prod.mk.injEq] at H
                 obtain ⟨rfl, rfl, rfl, rfl⟩ := H
                 go_wp2_with (first | ((with_reducible refine gate_callee (f := 51) rfl ?_); refine goesL_ (some 106) rfl rfl Try.func51 (by kernel_rfl) rfl #[.string a0, .int .i64 x5_1] rfl (by (try simp only [List.map_toArray, List.map_cons, List.map_nil]); first | done | rfl | (simp only [List.length_drop, List.length_take]; rfl)) ?_; (with_reducible refine (primerref04_Literal.calls kj40 a0 x5_1 t317 t318 true _ A44.out).mono ?_); rintro e w50 ⟨rfl, hb⟩; refine ⟨_, rfl, ?_⟩; have n0_ := Aside0.mk (Kd.R_below (by (with_reducible repeat (first | apply Kd.R_alloc | apply Kd.R_drewN | apply Kd.R_drew)); exact HO_4.out) hb); have n1_ := Aside0.mk (blk_below (g := gb301) (o := .cells #[.int .i64 x302000_1, .int .i64 x302001_1, .int .i64 x302002_1] 35 (0, 0)) (by (with_reducible repeat (first | refine blk_drewN ?_ _ | refine blk_drew ?_ | refine blk_alloc ?_ _)); exact BK301.out) hb); have n2_ := Aside0.mk (below_step (by repeat (first | (with_reducible first | exact HB.out | apply below_alloc | apply pw_below_drewN | apply below_drew1 | refine below_set ?_ GE301.out) | exact HB.out)) hb); clear HO_4; clear BK301; clear HB; have HO_4 := n0_; have BK301 := n1_; have HB := n2_; clear n0_ n1_ n2_; (try clear hb); (try clear hb2); (try clear hk); (try clear hi); have hcz51_0 : w50.cell? ⟨gb301, 0, none⟩ = some (.int .i64 x302000_1) := (blk_cell BK301.out 0).trans rfl; have hcz51_1 : w50.cell? ⟨gb301, 1, none⟩ = some (.int .i64 x302001_1) := (blk_cell BK301.out 1).trans rfl; have hcz51_2 : w50.cell? ⟨gb301, 2, none⟩ = some (.int .i64 x302002_1) := (blk_cell BK301.out 2).trans rfl; have hfz51_0 := blk_frozen BK301.out 0; have hfz51_1 := blk_frozen BK301.out 1; have hfz51_2 := blk_frozen BK301.out 2))
                 refine bodyPost_ret (results_tc rfl _ _ gb301 35 #[.int .i64 t307, .int .i64 t308, .int .i64 6] (0, 0) _ rfl (by (with_reducible repeat (first | refine blk_drewN ?_ _ | refine blk_drew ?_ | refine blk_alloc ?_ _)); refine blk_put (cs := #[.int .i64 t307, .int .i64 t308, .int .i64 x302002_1]) ?_ 2 _ rfl; (with_reducible repeat (first | refine blk_drewN ?_ _ | refine blk_drew ?_ | refine blk_alloc ?_ _)); refine blk_put (cs := #[.int .i64 t307, .int .i64 x302001_1, .int .i64 x302002_1]) ?_ 1 _ rfl; (with_reducible repeat (first | refine blk_drewN ?_ _ | refine blk_drew ?_ | refine blk_alloc ?_ _)); refine blk_put (cs := #[.int .i64 x302000_1, .int .i64 x302001_1, .int .i64 x302002_1]) ?_ 0 _ rfl; (with_reducible repeat (first | refine blk_drewN ?_ _ | refine blk_drew ?_ | refine blk_alloc ?_ _)); exact BK301.out) Try.underlying35 rfl (by kernel_rfl)) rfl ?_
                 exact ⟨_, by first | rfl | (simp [errW_none, errW_some] <;> rfl) | (simp [*, errW_none, errW_some] <;> rfl), by first | exact Kd.R_nil _ _ _ _ _ | exact Kd.N_nil _ _ _ _ _ | exact Kd.V_nil _ _ _ _ _ | exact Kd.Q_nil _ _ _ _ _ | exact Kd.S_nil _ _ _ _ _, by repeat (first | (with_reducible first | exact HB.out | apply below_alloc | apply pw_below_drewN | apply below_drew1 | refine below_set ?_ GE301.out) | exact HB.out)⟩
                ·rw [if_neg c49] at H
                 have c49b0 : decide (16 < (t317.size : Int)) = false := decide_eq_false c49
                 have c49b1 : decide (16 < t317.size) = false := decide_eq_false (by omega)
                 clear c49
                 by_cases c52 : x4_1.length < 3518437208883
                 ·rw [if_pos c52] at H
                  have LMc52 := Aside0.mk c52
                  clear c52
                  obtain ⟨y323, hy323⟩ : ∃ y_ : List (S102), y_ = (x4_1 ++ [(⟨2, t317, t307, t308⟩ : S102)]) := ⟨_, rfl⟩
                  replace H : (primerref04_Scan.l0 kj40 a0 y323 t318) = some (r1, r2, r3, r4) := by first | (rw [hy323]; with_reducible exact H) | (have H2_ := (Option.bind_some _ _).symm.trans H; rw [hy323]; with_reducible exact H2_) | (have H2_ := (Option.bind_some _ _).symm.trans H; with_reducible exact H2_) | with_reducible exact H | (rw [hy323]; exact H) | exact H
                  have Ny323 := Aside0.mk hy323
                  clear hy323
                  have H' := Aside0.mk H
                  clear H
                  go_wp2_with (first | ((with_reducible refine gate_callee (f := 51) rfl ?_); refine goesL_ (some 106) rfl rfl Try.func51 (by kernel_rfl) rfl #[.string a0, .int .i64 x5_1] rfl (by (try simp only [List.map_toArray, List.map_cons, List.map_nil]); first | done | rfl | (simp only [List.length_drop, List.length_take]; rfl)) ?_; (with_reducible refine (primerref04_Literal.calls kj40 a0 x5_1 t317 t318 true _ A44.out).mono ?_); rintro e w53 ⟨rfl, hb⟩; refine ⟨_, rfl, ?_⟩; have n0_ := Aside0.mk (Kd.R_below (by (with_reducible repeat (first | apply Kd.R_alloc | apply Kd.R_drewN | apply Kd.R_drew)); exact HO_4.out) hb); have n1_ := Aside0.mk (blk_below (g := gb301) (o := .cells #[.int .i64 x302000_1, .int .i64 x302001_1, .int .i64 x302002_1] 35 (0, 0)) (by (with_reducible repeat (first | refine blk_drewN ?_ _ | refine blk_drew ?_ | refine blk_alloc ?_ _)); exact BK301.out) hb); have n2_ := Aside0.mk (below_step (by repeat (first | (with_reducible first | exact HB.out | apply below_alloc | apply pw_below_drewN | apply below_drew1 | refine below_set ?_ GE301.out) | exact HB.out)) hb); clear HO_4; clear BK301; clear HB; have HO_4 := n0_; have BK301 := n1_; have HB := n2_; clear n0_ n1_ n2_; (try clear hb); (try clear hb2); (try clear hk); (try clear hi)) | ((with_reducible refine gate_builtin (b := .append) (xs := #[.tmp 126, .tmp 131]) rfl ?_); at_builtin; refine Kd.R_append k102 (w0 := w) w.heap.size rfl (.tmp 126) (.tmp 131) 64 102 (.agg #[(.int .i64 0), (.string ⟨#[]⟩), (.int .i64 0), (.int .i64 0)]) 40 rfl Try.underlying64 info102 rfl (by decide) (by omega) u4 x4_1 (⟨2, t317, t307, t308⟩ : S102) [.int .i64 2, .string t317, .int .i64 t307, .int .i64 t308] (fun _ => True) (fun _ => False) rfl rfl ?aP (fun _ hk => hk.elim) ?aF ?aO ?aB ?aS ?aL ?_; (case aP => exact k102_mkM _ _ _ (⟨2, t317, t307, t308⟩ : S102)); (case aB => exact (by repeat (first | (with_reducible first | exact HB.out | apply below_alloc | apply pw_below_drewN | apply below_drew1 | refine below_set ?_ GE301.out) | exact HB.out))); (case aF => exact (fun _ _ => trivial)); (case aO => exact (by (with_reducible repeat (first | apply Kd.R_alloc | apply Kd.R_drewN | apply Kd.R_drew)); exact HO_4.out)); (case aS => exact (below_size (by repeat (first | (with_reducible first | exact HB.out | apply below_alloc | apply pw_below_drewN | apply below_drew1 | refine below_set ?_ GE301.out) | exact HB.out)))); (case aL => have := LMc52.out; omega); intro v324 w54 ho hb hg hat; rw [← Ny323.out] at ho; have n0_ := Aside0.mk (blk_grown (g := gb301) (o := .cells #[.int .i64 x302000_1, .int .i64 x302001_1, .int .i64 x302002_1] 35 (0, 0)) (by (with_reducible repeat (first | refine blk_drewN ?_ _ | refine blk_drew ?_ | refine blk_alloc ?_ _)); exact BK301.out) hg (Kd.R_ne HO_4.out BK301.out (by decide))); have n1_ := Aside0.mk (hb); have n2_ := Aside0.mk (ho); clear BK301; clear HB; clear HO_4; have BK301 := n0_; have HB := n1_; have HO325 := n2_; clear n0_ n1_ n2_; clear ho hb hg hat))
                  go_roundg kj40
                  case measure => have := HK1.out; have := HJ9.out; have := HJ40.out; omega
                  case rel => exact ⟨(y323), (t318), (x302000_1), (x302001_1), (x302002_1), (by first | rfl | (simp; done) | (simp [*]; done)), H', ⟨by have := HK1.out; have := HJ9.out; have := HJ40.out; omega⟩, ⟨by (with_reducible repeat (first | apply Kd.R_alloc | apply Kd.R_drewN | apply Kd.R_drew)); exact HO325.out⟩, ⟨by (with_reducible repeat (first | refine blk_drewN ?_ _ | refine blk_drew ?_ | refine blk_alloc ?_ _)); exact BK301.out⟩, ⟨by repeat (first | (with_reducible first | exact HB.out | apply below_alloc | apply pw_below_drewN | apply below_drew1 | refine below_set ?_ GE301.out) | exact HB.out)⟩⟩
                 ·rw [if_neg c52] at H
                  exact absurd H (by simp)
              ·replace c45 := Bool.eq_false_iff.mpr c45
               subst c45
               have H1 : ((primerref04_fault.f kj40 a0 t318 2).bind fun bt320 => (some (([] : List (S102)), bt320.1, bt320.2.1, bt320.2.2))) = some (r1, r2, r3, r4) := by rw [if_neg (show ¬ (false = true) by decide)] at H; exact H
               clear H
               have H := H1
               clear H1
               replace H := Option.bind_eq_some_iff.mp H
               obtain ⟨⟨t320, t321, t322⟩, A550, H⟩ := H
               replace H : (some (([] : List (S102)), t320, t321, t322)) = some (r1, r2, r3, r4) := H
               have A55 := Aside0.mk A550
               clear A550
               simp only [Option.some.injEq, Prod.mk.injEq] at H
               obtain ⟨rfl, rfl, rfl, rfl⟩ := H
               go_wp2_with (first | ((with_reducible refine gate_callee (f := 51) rfl ?_); refine goesL_ (some 106) rfl rfl Try.func51 (by kernel_rfl) rfl #[.string a0, .int .i64 x5_1] rfl (by (try simp only [List.map_toArray, List.map_cons, List.map_nil]); first | done | rfl | (simp only [List.length_drop, List.length_take]; rfl)) ?_; (with_reducible refine (primerref04_Literal.calls kj40 a0 x5_1 t317 t318 false _ A44.out).mono ?_); rintro e w56 ⟨rfl, hb⟩; refine ⟨_, rfl, ?_⟩; have n0_ := Aside0.mk (Kd.R_below (by (with_reducible repeat (first | apply Kd.R_alloc | apply Kd.R_drewN | apply Kd.R_drew)); exact HO_4.out) hb); have n1_ := Aside0.mk (blk_below (g := gb301) (o := .cells #[.int .i64 x302000_1, .int .i64 x302001_1, .int .i64 x302002_1] 35 (0, 0)) (by (with_reducible repeat (first | refine blk_drewN ?_ _ | refine blk_drew ?_ | refine blk_alloc ?_ _)); exact BK301.out) hb); have n2_ := Aside0.mk (below_step (by repeat (first | (with_reducible first | exact HB.out | apply below_alloc | apply pw_below_drewN | apply below_drew1 | refine below_set ?_ GE301.out) | exact HB.out)) hb); clear HO_4; clear BK301; clear HB; have HO_4 := n0_; have BK301 := n1_; have HB := n2_; clear n0_ n1_ n2_; (try clear hb); (try clear hb2); (try clear hk); (try clear hi)) | ((with_reducible refine gate_callee (f := 52) rfl ?_); refine goesL_ (some 114) rfl rfl Try.func52 (by kernel_rfl) rfl #[.string a0, .int .i64 t318, .int .i64 2] rfl (by (try simp only [List.map_toArray, List.map_cons, List.map_nil]); first | done | rfl | (simp only [List.length_drop, List.length_take]; rfl)) ?_; (with_reducible refine (primerref04_fault.calls kj40 a0 t318 2 t320 t321 t322 _ A55.out).mono ?_); rintro e w57 ⟨rfl, hb⟩; refine ⟨_, rfl, ?_⟩; have n0_ := Aside0.mk (Kd.R_below (by (with_reducible repeat (first | apply Kd.R_alloc | apply Kd.R_drewN | apply Kd.R_drew)); exact HO_4.out) hb); have n1_ := Aside0.mk (blk_below (g := gb301) (o := .cells #[.int .i64 x302000_1, .int .i64 x302001_1, .int .i64 x302002_1] 35 (0, 0)) (by (with_reducible repeat (first | refine blk_drewN ?_ _ | refine blk_drew ?_ | refine blk_alloc ?_ _)); exact BK301.out) hb); have n2_ := Aside0.mk (below_step (by repeat (first | (with_reducible first | exact HB.out | apply below_alloc | apply pw_below_drewN | apply below_drew1 | refine below_set ?_ GE301.out) | exact HB.out)) hb); clear HO_4; clear BK301; clear HB; have HO_4 := n0_; have BK301 := n1_; have HB := n2_; clear n0_ n1_ n2_; (try clear hb); (try clear hb2); (try clear hk); (try clear hi); have hcz58_0 : w57.cell? ⟨gb301, 0, none⟩ = some (.int .i64 x302000_1) := (blk_cell BK301.out 0).trans rfl; have hcz58_1 : w57.cell? ⟨gb301, 1, none⟩ = some (.int .i64 x302001_1) := (blk_cell BK301.out 1).trans rfl; have hcz58_2 : w57.cell? ⟨gb301, 2, none⟩ = some (.int .i64 x302002_1) := (blk_cell BK301.out 2).trans rfl; have hfz58_0 := blk_frozen BK301.out 0; have hfz58_1 := blk_frozen BK301.out 1; have hfz58_2 := blk_frozen BK301.out 2))
               refine bodyPost_ret (results_tc rfl _ _ gb301 35 #[.int .i64 t320, .int .i64 t321, .int .i64 t322] (0, 0) _ rfl (by (with_reducible repeat (first | refine blk_drewN ?_ _ | refine blk_drew ?_ | refine blk_alloc ?_ _)); refine blk_put (cs := #[.int .i64 t320, .int .i64 t321, .int .i64 x302002_1]) ?_ 2 _ rfl; (with_reducible repeat (first | refine blk_drewN ?_ _ | refine blk_drew ?_ | refine blk_alloc ?_ _)); refine blk_put (cs := #[.int .i64 t320, .int .i64 x302001_1, .int .i64 x302002_1]) ?_ 1 _ rfl; (with_reducible repeat (first | refine blk_drewN ?_ _ | refine blk_drew ?_ | refine blk_alloc ?_ _)); refine blk_put (cs := #[.int .i64 x302000_1, .int .i64 x302001_1, .int .i64 x302002_1]) ?_ 0 _ rfl; (with_reducible repeat (first | refine blk_drewN ?_ _ | refine blk_drew ?_ | refine blk_alloc ?_ _)); exact BK301.out) Try.underlying35 rfl (by kernel_rfl)) rfl ?_
               exact ⟨_, by first | rfl | (simp [errW_none, errW_some] <;> rfl) | (simp [*, errW_none, errW_some] <;> rfl), by first | exact Kd.R_nil _ _ _ _ _ | exact Kd.N_nil _ _ _ _ _ | exact Kd.V_nil _ _ _ _ _ | exact Kd.Q_nil _ _ _ _ _ | exact Kd.S_nil _ _ _ _ _, by repeat (first | (with_reducible first | exact HB.out | apply below_alloc | apply pw_below_drewN | apply below_drew1 | refine below_set ?_ GE301.out) | exact HB.out)⟩
             ·replace c43 := Bool.eq_false_iff.mpr c43
              subst c43
              have H1 : (primerref04_Scan.l3 kj40 a0 x4_1 x5_1 (bt a0 x5_1) t307 t308 false (⟨#[58, 124, 59, 40, 41, 91, 93, 123, 125, 42, 43, 63, 37]⟩ : ByteArray) 0) = some (r1, r2, r3, r4) := by rw [if_neg (show ¬ (false = true) by decide)] at H; exact H
              clear H
              have H := H1
              clear H1
              have H' := Aside0.mk H
              clear H
              go_wp2
              go_loopg [13, 15] kj40 (fun kq v13 v15 w' => ∃ (x13_4 : Bool) (x15_4 : Int), v13 = .bool x13_4 ∧ v15 = .int .i64 x15_4 ∧ Aside0 (primerref04_Scan.l3 kq a0 x4_1 x5_1 (bt a0 x5_1) t307 t308 x13_4 (⟨#[58, 124, 59, 40, 41, 91, 93, 123, 125, 42, 43, 63, 37]⟩ : ByteArray) x15_4 = some (r1, r2, r3, r4)) ∧ Aside0 (kq ≤ kj40) ∧ Aside0 (Kd.R k102 102 w' w.heap.size (fun _ => True) u4 x4_1) ∧ Aside0 (w'.heap[gb301]? = some (.cells #[.int .i64 x302000_1, .int .i64 x302001_1, .int .i64 x302002_1] 35 (0, 0))) ∧ Aside0 (Below w.heap.size w w'))
              case atStart => exact ⟨(false), (0), (by first | rfl | (simp; done) | (simp [*]; done)), (by first | rfl | (simp; done) | (simp [*]; done)), H', ⟨Nat.le_refl _⟩, ⟨by (with_reducible repeat (first | apply Kd.R_alloc | apply Kd.R_drewN | apply Kd.R_drew)); exact HO_4.out⟩, ⟨by (with_reducible repeat (first | refine blk_drewN ?_ _ | refine blk_drew ?_ | refine blk_alloc ?_ _)); exact BK301.out⟩, ⟨by repeat (first | (with_reducible first | exact HB.out | apply below_alloc | apply pw_below_drewN | apply below_drew1 | refine below_set ?_ GE301.out) | exact HB.out)⟩⟩
              case round =>
               clear H'
               try clear c1
               try clear p1
               try clear q1
               try clear hx1
               try clear c2
               try clear c2b0
               try clear c2b1
               try clear p2
               try clear q2
               try clear hx2
               try clear c3
               try clear c4
               try clear c5
               try clear c6
               try clear c6b0
               try clear p6
               try clear c7
               try clear c7b0
               try clear p8
               try clear q8
               try clear hx8
               try clear c11
               try clear c11b0
               try clear c11b1
               try clear c12
               try clear c12b0
               try clear c12b1
               try clear c13
               try clear c13b0
               try clear c13b1
               try clear c14
               try clear c15
               try clear c15b0
               try clear c15b1
               try clear c16
               try clear c16b0
               try clear c17
               try clear c17b0
               try clear p18
               try clear q18
               try clear hx18
               try clear c19
               try clear c19b0
               try clear c19b1
               try clear c20
               try clear c21
               try clear c22
               try clear c22b0
               try clear c23
               try clear c23b0
               try clear p24
               try clear q24
               try clear hx24
               try clear c26
               try clear c27
               try clear c27b0
               try clear c29
               try clear c29b0
               try clear c29b1
               try clear c30
               try clear c30b0
               try clear c30b1
               try clear c31
               try clear c31b0
               try clear c31b1
               try clear c32
               try clear c34
               try clear c34b0
               try clear c36
               try clear c36b0
               try clear c36b1
               try clear c37
               try clear c37b0
               try clear c37b1
               try clear c38
               try clear c38b0
               try clear c38b1
               try clear c39
               try clear c42
               try clear c42b0
               try clear c42b1
               try clear c43
               try clear c45
               try clear c46
               try clear c46b0
               try clear c46b1
               try clear c49
               try clear c49b0
               try clear c49b1
               try clear c51
               try clear c52
               try clear hcz28_0
               try clear hcz28_1
               try clear hcz28_2
               try clear hcz35_0
               try clear hcz35_1
               try clear hcz35_2
               try clear hcz48_0
               try clear hcz48_1
               try clear hcz48_2
               try clear hcz4_0
               try clear hcz4_1
               try clear hcz4_2
               try clear hcz51_0
               try clear hcz51_1
               try clear hcz51_2
               try clear hcz58_0
               try clear hcz58_1
               try clear hcz58_2
               try clear hfz28_0
               try clear hfz28_1
               try clear hfz28_2
               try clear hfz35_0
               try clear hfz35_1
               try clear hfz35_2
               try clear hfz48_0
               try clear hfz48_1
               try clear hfz48_2
               try clear hfz4_0
               try clear hfz4_1
               try clear hfz4_2
               try clear hfz51_0
               try clear hfz51_1
               try clear hfz51_2
               try clear hfz58_0
               try clear hfz58_1
               try clear hfz58_2
               try clear p1
               try clear p18
               try clear p2
               try clear p24
               try clear p6
               try clear p8
               try clear q1
               try clear q18
               try clear q2
               try clear q24
               try clear q8
               obtain ⟨x13_4, x15_4, rfl, rfl, HA, HK4, HO_4, BK301, HB⟩ := hrel
               cases gk with
               | zero => exact absurd HA.out (by simp [primerref04_Scan.l3])
               | succ k4 =>
                have H := HA.out
                clear HA
                simp only [primerref04_Scan.l3] at H
                by_cases c59 : x15_4 < ((⟨#[58, 124, 59, 40, 41, 91, 93, 123, 125, 42, 43, 63, 37]⟩ : ByteArray).size : Int)
                ·rw [if_pos c59] at H
                 have c59b0 : decide (x15_4 < ((⟨#[58, 124, 59, 40, 41, 91, 93, 123, 125, 42, 43, 63, 37]⟩ : ByteArray).size : Int)) = true := decide_eq_true c59
                 have c59b0s : decide (x15_4 < (13 : Int)) = true := c59b0
                 clear c59
                 by_cases c60 : x13_4 = true
                 ·subst c60
                  have H1 : (primerref04_Scan.l3 k4 a0 x4_1 x5_1 (bt a0 x5_1) t307 t308 true (⟨#[58, 124, 59, 40, 41, 91, 93, 123, 125, 42, 43, 63, 37]⟩ : ByteArray) (wrap64 (x15_4 + 1))) = some (r1, r2, r3, r4) := by rw [if_pos rfl] at H; exact H
                  clear H
                  have H := H1
                  clear H1
                  have H' := Aside0.mk H
                  clear H
                  go_wp2
                  go_roundg k4
                  case measure => have := HK1.out; have := HJ9.out; have := HJ40.out; have := HK4.out; omega
                  case rel => exact ⟨(true), (wrap64 (x15_4 + 1)), (by first | rfl | (simp; done) | (simp [*]; done)), (by first | rfl | (simp; done) | (simp [*]; done)), H', ⟨by have := HK1.out; have := HJ9.out; have := HJ40.out; have := HK4.out; omega⟩, ⟨by (with_reducible repeat (first | apply Kd.R_alloc | apply Kd.R_drewN | apply Kd.R_drew)); exact HO_4.out⟩, ⟨by (with_reducible repeat (first | refine blk_drewN ?_ _ | refine blk_drew ?_ | refine blk_alloc ?_ _)); exact BK301.out⟩, ⟨by repeat (first | (with_reducible first | exact HB.out | apply below_alloc | apply pw_below_drewN | apply below_drew1 | refine below_set ?_ GE301.out) | exact HB.out)⟩⟩
                 ·replace c60 := Bool.eq_false_iff.mpr c60
                  subst c60
                  have H1 : (if 0 ≤ x15_4 then (primerref04_Scan.l3 k4 a0 x4_1 x5_1 (bt a0 x5_1) t307 t308 ((bt (⟨#[58, 124, 59, 40, 41, 91, 93, 123, 125, 42, 43, 63, 37]⟩ : ByteArray) x15_4) == (bt a0 x5_1)) (⟨#[58, 124, 59, 40, 41, 91, 93, 123, 125, 42, 43, 63, 37]⟩ : ByteArray) (wrap64 (x15_4 + 1))) else (none)) = some (r1, r2, r3, r4) := by rw [if_neg (show ¬ (false = true) by decide)] at H; exact H
                  clear H
                  have H := H1
                  clear H1
                  by_cases c61 : 0 ≤ x15_4
                  ·rw [if_pos c61] at H
                   have c61b0 : decide (0 ≤ x15_4) = true := decide_eq_true c61
                   clear c61
                   have H' := Aside0.mk H
                   clear H
                   have p62 : 0 ≤ (x15_4 : Int) := of_decide_eq_true (by first | (with_reducible assumption) | assumption)
                   have q62 : x15_4 < (13 : Int) := of_decide_eq_true (by first | (with_reducible assumption) | assumption)
                   have hx62 := bt_at (⟨#[58, 124, 59, 40, 41, 91, 93, 123, 125, 42, 43, 63, 37]⟩ : ByteArray) x15_4
                   replace p62 := eq_true p62
                   replace q62 := eq_true q62
                   go_wp2
                   go_roundg k4
                   case measure => have := HK1.out; have := HJ9.out; have := HJ40.out; have := HK4.out; omega
                   case rel => exact ⟨(((bt (⟨#[58, 124, 59, 40, 41, 91, 93, 123, 125, 42, 43, 63, 37]⟩ : ByteArray) x15_4) == (bt a0 x5_1))), (wrap64 (x15_4 + 1)), (by first | rfl | (simp; done) | (simp [*]; done)), (by first | rfl | (simp; done) | (simp [*]; done)), H', ⟨by have := HK1.out; have := HJ9.out; have := HJ40.out; have := HK4.out; omega⟩, ⟨by (with_reducible repeat (first | apply Kd.R_alloc | apply Kd.R_drewN | apply Kd.R_drew)); exact HO_4.out⟩, ⟨by (with_reducible repeat (first | refine blk_drewN ?_ _ | refine blk_drew ?_ | refine blk_alloc ?_ _)); exact BK301.out⟩, ⟨by repeat (first | (with_reducible first | exact HB.out | apply below_alloc | apply pw_below_drewN | apply below_drew1 | refine below_set ?_ GE301.out) | exact HB.out)⟩⟩
                  ·rw [if_neg c61] at H
                   exact absurd H (by simp)
                ·rw [if_neg c59] at H
                 have c59b0 : decide (x15_4 < ((⟨#[58, 124, 59, 40, 41, 91, 93, 123, 125, 42, 43, 63, 37]⟩ : ByteArray).size : Int)) = false := decide_eq_false c59
                 have c59b0s : decide (x15_4 < (13 : Int)) = false := c59b0
                 clear c59
                 by_cases c63 : x13_4 = true
                 ·subst c63
                  have H1 : (if 0 ≤ x5_1 then (if x5_1 ≤ (wrap64 (x5_1 + 1)) then (if (wrap64 (x5_1 + 1)) ≤ (a0.size : Int) then (if x4_1.length < 3518437208883 then (primerref04_Scan.l0 k4 a0 (x4_1 ++ [(⟨3, a0.extract (x5_1 : Int).toNat ((wrap64 (x5_1 + 1)) : Int).toNat, t307, t308⟩ : S102)]) (wrap64 (x5_1 + 1))) else (none)) else (none)) else (none)) else (none)) = some (r1, r2, r3, r4) := by rw [if_pos rfl] at H; exact H
                  clear H
                  have H := H1
                  clear H1
                  by_cases c64 : 0 ≤ x5_1
                  ·rw [if_pos c64] at H
                   have c64b0 := eq_true c64
                   have c64b1 : decide (0 ≤ x5_1) = true := decide_eq_true c64
                   clear c64
                   by_cases c65 : x5_1 ≤ (wrap64 (x5_1 + 1))
                   ·rw [if_pos c65] at H
                    have c65b0 := eq_true c65
                    have c65b1 : decide (x5_1 ≤ (wrap64 (x5_1 + 1))) = true := decide_eq_true c65
                    by_cases c66 : (wrap64 (x5_1 + 1)) ≤ (a0.size : Int)
                    ·rw [if_pos c66] at H
                     have c66b0 := eq_true c66
                     have c66b1 : decide ((wrap64 (x5_1 + 1)) ≤ (a0.size : Int)) = true := decide_eq_true c66
                     by_cases c67 : x4_1.length < 3518437208883
                     ·rw [if_pos c67] at H
                      have LMc67 := Aside0.mk c67
                      clear c67
                      obtain ⟨y326, hy326⟩ : ∃ y_ : List (S102), y_ = (x4_1 ++ [(⟨3, a0.extract (x5_1 : Int).toNat ((wrap64 (x5_1 + 1)) : Int).toNat, t307, t308⟩ : S102)]) := ⟨_, rfl⟩
                      replace H : (primerref04_Scan.l0 k4 a0 y326 (wrap64 (x5_1 + 1))) = some (r1, r2, r3, r4) := by first | (rw [hy326]; with_reducible exact H) | (have H2_ := (Option.bind_some _ _).symm.trans H; rw [hy326]; with_reducible exact H2_) | (have H2_ := (Option.bind_some _ _).symm.trans H; with_reducible exact H2_) | with_reducible exact H | (rw [hy326]; exact H) | exact H
                      have Ny326 := Aside0.mk hy326
                      clear hy326
                      have H' := Aside0.mk H
                      clear H
                      go_wp2_with (first | ((with_reducible refine gate_builtin (b := .append) (xs := #[.tmp 153, .tmp 162]) rfl ?_); at_builtin; refine Kd.R_append k102 (w0 := w) w.heap.size rfl (.tmp 153) (.tmp 162) 64 102 (.agg #[(.int .i64 0), (.string ⟨#[]⟩), (.int .i64 0), (.int .i64 0)]) 40 rfl Try.underlying64 info102 rfl (by decide) (by omega) u4 x4_1 (⟨3, a0.extract (x5_1 : Int).toNat ((wrap64 (x5_1 + 1)) : Int).toNat, t307, t308⟩ : S102) [.int .i64 3, .string (a0.extract (x5_1 : Int).toNat ((wrap64 (x5_1 + 1)) : Int).toNat), .int .i64 t307, .int .i64 t308] (fun _ => True) (fun _ => False) rfl rfl ?aP (fun _ hk => hk.elim) ?aF ?aO ?aB ?aS ?aL ?_; (case aP => exact k102_mkM _ _ _ (⟨3, a0.extract (x5_1 : Int).toNat ((wrap64 (x5_1 + 1)) : Int).toNat, t307, t308⟩ : S102)); (case aB => exact (by repeat (first | (with_reducible first | exact HB.out | apply below_alloc | apply pw_below_drewN | apply below_drew1 | refine below_set ?_ GE301.out) | exact HB.out))); (case aF => exact (fun _ _ => trivial)); (case aO => exact (by (with_reducible repeat (first | apply Kd.R_alloc | apply Kd.R_drewN | apply Kd.R_drew)); exact HO_4.out)); (case aS => exact (below_size (by repeat (first | (with_reducible first | exact HB.out | apply below_alloc | apply pw_below_drewN | apply below_drew1 | refine below_set ?_ GE301.out) | exact HB.out)))); (case aL => have := LMc67.out; omega); intro v327 w68 ho hb hg hat; rw [← Ny326.out] at ho; have n0_ := Aside0.mk (blk_grown (g := gb301) (o := .cells #[.int .i64 x302000_1, .int .i64 x302001_1, .int .i64 x302002_1] 35 (0, 0)) (by (with_reducible repeat (first | refine blk_drewN ?_ _ | refine blk_drew ?_ | refine blk_alloc ?_ _)); exact BK301.out) hg (Kd.R_ne HO_4.out BK301.out (by decide))); have n1_ := Aside0.mk (hb); have n2_ := Aside0.mk (ho); clear BK301; clear HB; clear HO_4; have BK301 := n0_; have HB := n1_; have HO328 := n2_; clear n0_ n1_ n2_; clear ho hb hg hat))
                      go_roundg k4
                      case measure => have := HK1.out; have := HJ9.out; have := HJ40.out; have := HK4.out; omega
                      case rel => exact ⟨(y326), (wrap64 (x5_1 + 1)), (x302000_1), (x302001_1), (x302002_1), (by first | rfl | (simp; done) | (simp [*]; done)), H', ⟨by have := HK1.out; have := HJ9.out; have := HJ40.out; have := HK4.out; omega⟩, ⟨by (with_reducible repeat (first | apply Kd.R_alloc | apply Kd.R_drewN | apply Kd.R_drew)); exact HO328.out⟩, ⟨by (with_reducible repeat (first | refine blk_drewN ?_ _ | refine blk_drew ?_ | refine blk_alloc ?_ _)); exact BK301.out⟩, ⟨by repeat (first | (with_reducible first | exact HB.out | apply below_alloc | apply pw_below_drewN | apply below_drew1 | refine below_set ?_ GE301.out) | exact HB.out)⟩⟩
                     ·rw [if_neg c67] at H
                      exact absurd H (by simp)
                    ·rw [if_neg c66] at H
                     exact absurd H (by simp)
                   ·rw [if_neg c65] at H
                    exact absurd H (by simp)
                  ·rw [if_neg c64] at H
                   exact absurd H (by simp)
                 ·replace c63 := Bool.eq_false_iff.mpr c63
                  subst c63
                  have H1 : (some (([] : List (S102)), t307, t308, 2)) = some (r1, r2, r3, r4) := by rw [if_neg (show ¬ (false = true) by decide)] at H; exact H
                  clear H
                  have H := H1
                  clear H1
                  simp only [Option.some.injEq, Prod.mk.injEq] at H
                  obtain ⟨rfl, rfl, rfl, rfl⟩ := H
                  have hcz69_0 : wr.cell? ⟨gb301, 0, none⟩ = some (.int .i64 x302000_1) := (blk_cell BK301.out 0).trans rfl
                  have hcz69_1 : wr.cell? ⟨gb301, 1, none⟩ = some (.int .i64 x302001_1) := (blk_cell BK301.out 1).trans rfl
                  have hcz69_2 : wr.cell? ⟨gb301, 2, none⟩ = some (.int .i64 x302002_1) := (blk_cell BK301.out 2).trans rfl
                  have hfz69_0 := blk_frozen BK301.out 0
                  have hfz69_1 := blk_frozen BK301.out 1
                  have hfz69_2 := blk_frozen BK301.out 2
                  go_wp2
                  refine bodyPost_ret (results_tc rfl _ _ gb301 35 #[.int .i64 t307, .int .i64 t308, .int .i64 2] (0, 0) _ rfl (by (with_reducible repeat (first | refine blk_drewN ?_ _ | refine blk_drew ?_ | refine blk_alloc ?_ _)); refine blk_put (cs := #[.int .i64 t307, .int .i64 t308, .int .i64 x302002_1]) ?_ 2 _ rfl; (with_reducible repeat (first | refine blk_drewN ?_ _ | refine blk_drew ?_ | refine blk_alloc ?_ _)); refine blk_put (cs := #[.int .i64 t307, .int .i64 x302001_1, .int .i64 x302002_1]) ?_ 1 _ rfl; (with_reducible repeat (first | refine blk_drewN ?_ _ | refine blk_drew ?_ | refine blk_alloc ?_ _)); refine blk_put (cs := #[.int .i64 x302000_1, .int .i64 x302001_1, .int .i64 x302002_1]) ?_ 0 _ rfl; (with_reducible repeat (first | refine blk_drewN ?_ _ | refine blk_drew ?_ | refine blk_alloc ?_ _)); exact BK301.out) Try.underlying35 rfl (by kernel_rfl)) rfl ?_
                  exact ⟨_, by first | rfl | (simp [errW_none, errW_some] <;> rfl) | (simp [*, errW_none, errW_some] <;> rfl), by first | exact Kd.R_nil _ _ _ _ _ | exact Kd.N_nil _ _ _ _ _ | exact Kd.V_nil _ _ _ _ _ | exact Kd.Q_nil _ _ _ _ _ | exact Kd.S_nil _ _ _ _ _, by repeat (first | (with_reducible first | exact HB.out | apply below_alloc | apply pw_below_drewN | apply below_drew1 | refine below_set ?_ GE301.out) | exact HB.out)⟩
     ·rw [if_neg c7] at H
      exact absurd H (by simp)
    ·rw [if_neg c6] at H
     have c6b0 : decide (x5_1 < (a0.size : Int)) = false := decide_eq_false c6
     clear c6
     replace H := Option.bind_eq_some_iff.mp H
     obtain ⟨⟨t302, t303⟩, A700, H⟩ := H
     replace H : (if x4_1.length < 3518437208883 then (some ((x4_1 ++ [(⟨4, (⟨#[]⟩ : ByteArray), t302, t303⟩ : S102)]), 0, 0, 0)) else (none)) = some (r1, r2, r3, r4) := H
     have A70 := Aside0.mk A700
     clear A700
     by_cases c71 : x4_1.length < 3518437208883
     ·rw [if_pos c71] at H
      have LMc71 := Aside0.mk c71
      clear c71
      obtain ⟨y304, hy304⟩ : ∃ y_ : List (S102), y_ = (x4_1 ++ [(⟨4, (⟨#[]⟩ : ByteArray), t302, t303⟩ : S102)]) := ⟨_, rfl⟩
      replace H : (some (y304, 0, 0, 0)) = some (r1, r2, r3, r4) := by first | (rw [hy304]; with_reducible exact H) | (have H2_ := (Option.bind_some _ _).symm.trans H; rw [hy304]; with_reducible exact H2_) | (have H2_ := (Option.bind_some _ _).symm.trans H; with_reducible exact H2_) | with_reducible exact H | (rw [hy304]; exact H) | exact H
      have Ny304 := Aside0.mk hy304
      clear hy304
      simp only [Option.some.injEq, Prod.mk.injEq] at H
      obtain ⟨rfl, rfl, rfl, rfl⟩ := H
      go_wp2_with (first | ((with_reducible refine gate_callee (f := 48) rfl ?_); refine goesL_ (some 170) rfl rfl Try.func48 (by kernel_rfl) rfl #[.string a0, .int .i64 (a0.size : Int)] rfl (by (try simp only [List.map_toArray, List.map_cons, List.map_nil]); first | done | rfl | (simp only [List.length_drop, List.length_take]; rfl)) ?_; (with_reducible refine (primerref04_Place.calls k1 a0 (a0.size : Int) t302 t303 _ A70.out).mono ?_); rintro e w' ⟨rfl, ⟨nd, rfl⟩⟩; refine ⟨_, rfl, ?_⟩; (try (rw [drewN_self wr]; generalize hq_ : World.drewN wr _ = wr; have n0_ : Aside0 (Kd.R k102 102 wr w.heap.size (fun _ => True) u4 x4_1) := ⟨by rw [← hq_]; exact (by (with_reducible repeat (first | apply Kd.R_alloc | apply Kd.R_drewN | apply Kd.R_drew)); exact HO_4.out)⟩; have n1_ : Aside0 (wr.heap[gb301]? = some (.cells #[.int .i64 x302000_1, .int .i64 x302001_1, .int .i64 x302002_1] 35 (0, 0))) := ⟨by rw [← hq_]; exact (by (with_reducible repeat (first | refine blk_drewN ?_ _ | refine blk_drew ?_ | refine blk_alloc ?_ _)); exact BK301.out)⟩; have n2_ : Aside0 (Below w.heap.size w wr) := ⟨by rw [← hq_]; exact (by repeat (first | (with_reducible first | exact HB.out | apply below_alloc | apply pw_below_drewN | apply below_drew1 | refine below_set ?_ GE301.out) | exact HB.out))⟩; clear HO_4 BK301 HB hq_; have HO_4 := n0_; have BK301 := n1_; have HB := n2_; clear n0_ n1_ n2_))) | ((with_reducible refine gate_builtin (b := .append) (xs := #[.tmp 173, .tmp 177]) rfl ?_); at_builtin; refine Kd.R_append k102 (w0 := w) w.heap.size rfl (.tmp 173) (.tmp 177) 64 102 (.agg #[(.int .i64 0), (.string ⟨#[]⟩), (.int .i64 0), (.int .i64 0)]) 40 rfl Try.underlying64 info102 rfl (by decide) (by omega) u4 x4_1 (⟨4, (⟨#[]⟩ : ByteArray), t302, t303⟩ : S102) [.int .i64 4, .string (⟨#[]⟩ : ByteArray), .int .i64 t302, .int .i64 t303] (fun _ => True) (fun _ => False) rfl rfl ?aP (fun _ hk => hk.elim) ?aF ?aO ?aB ?aS ?aL ?_; (case aP => exact k102_mkM _ _ _ (⟨4, (⟨#[]⟩ : ByteArray), t302, t303⟩ : S102)); (case aB => exact (by repeat (first | (with_reducible first | exact HB.out | apply below_alloc | apply pw_below_drewN | apply below_drew1 | refine below_set ?_ GE301.out) | exact HB.out))); (case aF => exact (fun _ _ => trivial)); (case aO => exact (by (with_reducible repeat (first | apply Kd.R_alloc | apply Kd.R_drewN | apply Kd.R_drew)); exact HO_4.out)); (case aS => exact (below_size (by repeat (first | (with_reducible first | exact HB.out | apply below_alloc | apply pw_below_drewN | apply below_drew1 | refine below_set ?_ GE301.out) | exact HB.out)))); (case aL => have := LMc71.out; omega); intro v305 w72 ho hb hg hat; rw [← Ny304.out] at ho; have n0_ := Aside0.mk (blk_grown (g := gb301) (o := .cells #[.int .i64 x302000_1, .int .i64 x302001_1, .int .i64 x302002_1] 35 (0, 0)) (by (with_reducible repeat (first | refine blk_drewN ?_ _ | refine blk_drew ?_ | refine blk_alloc ?_ _)); exact BK301.out) hg (Kd.R_ne HO_4.out BK301.out (by decide))); have n1_ := Aside0.mk (hb); have n2_ := Aside0.mk (ho); clear BK301; clear HB; clear HO_4; have BK301 := n0_; have HB := n1_; have HO306 := n2_; clear n0_ n1_ n2_; clear ho hb hg hat; have hcz73_0 : w72.cell? ⟨gb301, 0, none⟩ = some (.int .i64 x302000_1) := (blk_cell BK301.out 0).trans rfl; have hcz73_1 : w72.cell? ⟨gb301, 1, none⟩ = some (.int .i64 x302001_1) := (blk_cell BK301.out 1).trans rfl; have hcz73_2 : w72.cell? ⟨gb301, 2, none⟩ = some (.int .i64 x302002_1) := (blk_cell BK301.out 2).trans rfl; have hfz73_0 := blk_frozen BK301.out 0; have hfz73_1 := blk_frozen BK301.out 1; have hfz73_2 := blk_frozen BK301.out 2))
      refine bodyPost_ret (results_tc rfl _ _ gb301 35 #[.int .i64 0, .int .i64 0, .int .i64 0] (0, 0) _ rfl (by (with_reducible repeat (first | refine blk_drewN ?_ _ | refine blk_drew ?_ | refine blk_alloc ?_ _)); refine blk_put (cs := #[.int .i64 0, .int .i64 0, .int .i64 x302002_1]) ?_ 2 _ rfl; (with_reducible repeat (first | refine blk_drewN ?_ _ | refine blk_drew ?_ | refine blk_alloc ?_ _)); refine blk_put (cs := #[.int .i64 0, .int .i64 x302001_1, .int .i64 x302002_1]) ?_ 1 _ rfl; (with_reducible repeat (first | refine blk_drewN ?_ _ | refine blk_drew ?_ | refine blk_alloc ?_ _)); refine blk_put (cs := #[.int .i64 x302000_1, .int .i64 x302001_1, .int .i64 x302002_1]) ?_ 0 _ rfl; (with_reducible repeat (first | refine blk_drewN ?_ _ | refine blk_drew ?_ | refine blk_alloc ?_ _)); exact BK301.out) Try.underlying35 rfl (by kernel_rfl)) rfl ?_
      exact ⟨_, by first | rfl | (simp [errW_none, errW_some] <;> rfl) | (simp [*, errW_none, errW_some] <;> rfl), by (with_reducible repeat (first | apply Kd.R_alloc | apply Kd.R_drewN | apply Kd.R_drew)); exact Kd.R_mono (Kd.R_far (p := ⟨gb301, 2, none⟩) (Kd.R_far (p := ⟨gb301, 1, none⟩) (Kd.R_far (p := ⟨gb301, 0, none⟩) (Kd.R_types HO306.out BK301.out (by decide)) (fun _ hk => hk.2) (.int .i64 0)) (fun _ hk => hk.2) (.int .i64 0)) (fun _ hk => hk.2) (.int .i64 0)) (fun _ hk => trivial), by repeat (first | (with_reducible first | exact HB.out | apply below_alloc | apply pw_below_drewN | apply below_drew1 | refine below_set ?_ GE301.out) | exact HB.out)⟩
     ·rw [if_neg c71] at H
      exact absurd H (by simp)

end Go.Proofs.Ytgllncnfhiiobaa.P
