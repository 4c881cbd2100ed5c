-- PRINTED by print.py (a twelfth state) out of the translation. Not trusted: Lean checks it.
import Derived.Test.YtohbjgckcbdegaaPx0
import Derived.Test.YtohbjgckcbdegaaPx3
import Derived.Test.YtohbjgckcbdegaaPx10
import Derived.Test.YtohbjgckcbdegaaLexExt
namespace Go.Proofs.Ytohbjgckcbdegaa.P
open Go.RowKit Go.Proofs.YtohbjgckcbdegaaW.PrintWords Go.Proofs.YtohbjgckcbdegaaW.PrintLast Go.Proofs.YtohbjgckcbdegaaW.PrintMore
attribute [local go_sem] max2_int min2_int max_two min_two max_three min_three max_four min_four   -- for this text's walks alone
set_option linter.unusedVariables false
set_option linter.unusedSimpArgs false

/-! ### primerlaw04_LexBlank: function 8 -/
mutual
def primerlaw04_LexBlank.l0 : Nat → List Int → List (S31) → ByteArray → Int → Option (Bool)
  | 0, _, _, _, _ => none
  | k + 1, x1, x5, x7, x8 => if x8 < (wrap64 ((x5.length : Int) - 1)) then (if x8 < (x1.length : Int) then (if 0 ≤ x8 then ((some (([(⟨#[32]⟩ : ByteArray), (⟨#[9, 10]⟩ : ByteArray), (⟨#[32, 35, 32, 110, 111, 32, 116, 111, 107, 101, 110, 32, 39, 32, 104, 101, 114, 101, 10]⟩ : ByteArray), (⟨#[13, 10, 32]⟩ : ByteArray)] : List ByteArray) : List ByteArray)).bind fun y324 => (if 0 ≤ (Go.bits .and .i64 (rd x1 x8) 3) then (if (Go.bits .and .i64 (rd x1 x8) 3) < (y324.length : Int) then (if x7.size + (rdOf ByteArray.empty y324 (Go.bits .and .i64 (rd x1 x8) 3)).size ≤ 9223372036854775807 then (if x8 < (x5.length : Int) then (if ((rd_T31 x5 x8).f0) = 2 then ((lex_Quote.f k ((rd_T31 x5 x8).f1)).bind fun t330 => (if (x7 ++ (rdOf ByteArray.empty y324 (Go.bits .and .i64 (rd x1 x8) 3))).size + t330.size ≤ 9223372036854775807 then (primerlaw04_LexBlank.l0 k x1 x5 ((x7 ++ (rdOf ByteArray.empty y324 (Go.bits .and .i64 (rd x1 x8) 3))) ++ t330) (wrap64 (x8 + 1))) else (none))) else (if (x7 ++ (rdOf ByteArray.empty y324 (Go.bits .and .i64 (rd x1 x8) 3))).size + ((rd_T31 x5 x8).f1).size ≤ 9223372036854775807 then (primerlaw04_LexBlank.l0 k x1 x5 ((x7 ++ (rdOf ByteArray.empty y324 (Go.bits .and .i64 (rd x1 x8) 3))) ++ ((rd_T31 x5 x8).f1)) (wrap64 (x8 + 1))) else (none))) else (none)) else (none)) else (none)) else (none))) else (none)) else ((some (([(⟨#[32]⟩ : ByteArray), (⟨#[9, 10]⟩ : ByteArray), (⟨#[32, 35, 32, 110, 111, 32, 116, 111, 107, 101, 110, 32, 39, 32, 104, 101, 114, 101, 10]⟩ : ByteArray), (⟨#[13, 10, 32]⟩ : ByteArray)] : List ByteArray) : List ByteArray)).bind fun y332 => (if 0 < (y332.length : Int) then (if x7.size + (rdOf ByteArray.empty y332 0).size ≤ 9223372036854775807 then (if 0 ≤ x8 then (if x8 < (x5.length : Int) then (if ((rd_T31 x5 x8).f0) = 2 then ((lex_Quote.f k ((rd_T31 x5 x8).f1)).bind fun t338 => (if (x7 ++ (rdOf ByteArray.empty y332 0)).size + t338.size ≤ 9223372036854775807 then (primerlaw04_LexBlank.l0 k x1 x5 ((x7 ++ (rdOf ByteArray.empty y332 0)) ++ t338) (wrap64 (x8 + 1))) else (none))) else (if (x7 ++ (rdOf ByteArray.empty y332 0)).size + ((rd_T31 x5 x8).f1).size ≤ 9223372036854775807 then (primerlaw04_LexBlank.l0 k x1 x5 ((x7 ++ (rdOf ByteArray.empty y332 0)) ++ ((rd_T31 x5 x8).f1)) (wrap64 (x8 + 1))) else (none))) else (none)) else (none)) else (none)) else (none)))) else ((lex_Scan.f x7).bind fun bt340 => (if bt340.2.2.2 = 0 then (primerlaw04_LexBlank.j1 k x5 bt340.1 ((bt340.1.length : Int) != (x5.length : Int))) else (primerlaw04_LexBlank.j1 k x5 bt340.1 true)))
def primerlaw04_LexBlank.j1 : Nat → List (S31) → List (S31) → Bool → Option (Bool)
  | 0, _, _, _ => none
  | k + 1, x5, x10, x83 => if x83 = true then (some false) else (primerlaw04_LexBlank.l1 k x5 x10 0)
def primerlaw04_LexBlank.l1 : Nat → List (S31) → List (S31) → Int → Option (Bool)
  | 0, _, _, _ => none
  | k + 1, x5, x10, x12 => if x12 < (x10.length : Int) then (if 0 ≤ x12 then (if x12 < (x5.length : Int) then (if ((rd_T31 x10 x12).f0) = ((rd_T31 x5 x12).f0) then (if ((rd_T31 x10 x12).f1).toList = ((rd_T31 x5 x12).f1).toList then (primerlaw04_LexBlank.l1 k x5 x10 (wrap64 (x12 + 1))) else (some false)) else (some false)) else (none)) else (none)) else (some true)
end
def primerlaw04_LexBlank.f (k : Nat) (a0 : ByteArray) (l1 : List Int) : Option (Bool) := (primerlaw04_speaks.f).bind fun t315 => (if t315 = true then (if (a0.size : Int) > 500 then (some true) else ((lex_Scan.f a0).bind fun bt316 => (if bt316.2.2.2 = 0 then (primerlaw04_LexBlank.l0 k l1 bt316.1 (⟨#[]⟩ : ByteArray) 0) else (some true)))) else (some false))
theorem primerlaw04_LexBlank.mono_l : ∀ k, (∀ y0 y1 y2 y3, LeO (primerlaw04_LexBlank.l0 k y0 y1 y2 y3) (primerlaw04_LexBlank.l0 (k + 1) y0 y1 y2 y3)) ∧ (∀ y0 y1 y2, LeO (primerlaw04_LexBlank.j1 k y0 y1 y2) (primerlaw04_LexBlank.j1 (k + 1) y0 y1 y2)) ∧ (∀ y0 y1 y2, LeO (primerlaw04_LexBlank.l1 k y0 y1 y2) (primerlaw04_LexBlank.l1 (k + 1) y0 y1 y2))
  | 0 => ⟨fun _ _ _ _ r h => by simp [primerlaw04_LexBlank.l0] at h, fun _ _ _ r h => by simp [primerlaw04_LexBlank.j1] at h, fun _ _ _ r h => by simp [primerlaw04_LexBlank.l1] at h⟩
  | k + 1 => by
    obtain ⟨ih0, ih1, ih2⟩ := primerlaw04_LexBlank.mono_l k
    refine ⟨?_, ?_, ?_⟩
    · intro y0 y1 y2 y3
      unfold primerlaw04_LexBlank.l0
      repeat' first
      | (with_reducible exact ih0 _ _ _ _)
      | (with_reducible exact ih1 _ _ _)
      | (with_reducible exact ih2 _ _ _)
      | (with_reducible exact lex_Quote.mono _ _)
      | (with_reducible exact LeO.refl _)
      | (with_reducible exact LeO.none _)
      | (with_reducible refine LeO.ite ?_ ?_)
      | (with_reducible refine LeO.bind ?_ (fun _ => ?_))
      | exact ih0 _ _ _ _
      | exact ih1 _ _ _
      | exact ih2 _ _ _
      | exact lex_Quote.mono _ _
      | exact LeO.none _
      | refine LeO.ite ?_ ?_
      | refine LeO.bind ?_ (fun _ => ?_)
    · intro y0 y1 y2
      unfold primerlaw04_LexBlank.j1
      repeat' first
      | (with_reducible exact ih0 _ _ _ _)
      | (with_reducible exact ih1 _ _ _)
      | (with_reducible exact ih2 _ _ _)
      | (with_reducible exact lex_Quote.mono _ _)
      | (with_reducible exact LeO.refl _)
      | (with_reducible exact LeO.none _)
      | (with_reducible refine LeO.ite ?_ ?_)
      | (with_reducible refine LeO.bind ?_ (fun _ => ?_))
      | exact ih0 _ _ _ _
      | exact ih1 _ _ _
      | exact ih2 _ _ _
      | exact lex_Quote.mono _ _
      | exact LeO.none _
      | refine LeO.ite ?_ ?_
      | refine LeO.bind ?_ (fun _ => ?_)
    · intro y0 y1 y2
      unfold primerlaw04_LexBlank.l1
      repeat' first
      | (with_reducible exact ih0 _ _ _ _)
      | (with_reducible exact ih1 _ _ _)
      | (with_reducible exact ih2 _ _ _)
      | (with_reducible exact lex_Quote.mono _ _)
      | (with_reducible exact LeO.refl _)
      | (with_reducible exact LeO.none _)
      | (with_reducible refine LeO.ite ?_ ?_)
      | (with_reducible refine LeO.bind ?_ (fun _ => ?_))
      | exact ih0 _ _ _ _
      | exact ih1 _ _ _
      | exact ih2 _ _ _
      | exact lex_Quote.mono _ _
      | exact LeO.none _
      | refine LeO.ite ?_ ?_
      | refine LeO.bind ?_ (fun _ => ?_)
theorem primerlaw04_LexBlank.mono : ∀ a0 a1 k, LeO (primerlaw04_LexBlank.f k a0 a1) (primerlaw04_LexBlank.f (k + 1) a0 a1) := by
  intro a0 a1 k
  obtain ⟨ih0, ih1, ih2⟩ := primerlaw04_LexBlank.mono_l k
  unfold primerlaw04_LexBlank.f
  repeat' first
      | (with_reducible exact ih0 _ _ _ _)
      | (with_reducible exact ih1 _ _ _)
      | (with_reducible exact ih2 _ _ _)
      | (with_reducible exact lex_Quote.mono _ _)
      | (with_reducible exact LeO.refl _)
      | (with_reducible exact LeO.none _)
      | (with_reducible refine LeO.ite ?_ ?_)
      | (with_reducible refine LeO.bind ?_ (fun _ => ?_))
      | exact ih0 _ _ _ _
      | exact ih1 _ _ _
      | exact ih2 _ _ _
      | exact lex_Quote.mono _ _
      | exact LeO.none _
      | refine LeO.ite ?_ ?_
      | refine LeO.bind ?_ (fun _ => ?_)
set_option maxHeartbeats 8000000 in
set_option maxRecDepth 100000 in
theorem primerlaw04_LexBlank.calls (k : Nat) (a0 : ByteArray) (A1 : Option Addr) (c1 : Nat) (l1 : List Int) (r : Bool) (w : World) (hr1 : Kd.C (Kd.int .i64) w A1 l1.length l1) (hc1 : l1.length ≤ c1) (h : primerlaw04_LexBlank.f k a0 l1 = some r) :
    Calls Try.prog 8 #[.string a0, .slice A1 l1.length c1] w fun e w' => e = .returned (.bool r) ∧ Below w.heap.size w w' := by
  have hu27 := Try.underlying27
  have HR1 := Aside0.mk hr1
  have HC1 := Aside0.mk hc1
  clear hr1 hc1
  have HB := Aside0.mk (Below.refl w.heap.size w)
  have H : ((primerlaw04_speaks.f).bind fun t315 => (if t315 = true then (if (a0.size : Int) > 500 then (some true) else ((lex_Scan.f a0).bind fun bt316 => (if bt316.2.2.2 = 0 then (primerlaw04_LexBlank.l0 k l1 bt316.1 (⟨#[]⟩ : ByteArray) 0) else (some true)))) else (some false))) = some r := h
  clear h
  replace H := Option.bind_eq_some_iff.mp H
  obtain ⟨t315, A30, H⟩ := H
  replace H : (if t315 = true then (if (a0.size : Int) > 500 then (some true) else ((lex_Scan.f a0).bind fun bt316 => (if bt316.2.2.2 = 0 then (primerlaw04_LexBlank.l0 k l1 bt316.1 (⟨#[]⟩ : ByteArray) 0) else (some true)))) else (some false)) = some r := H
  have A3 := Aside0.mk A30
  clear A30
  by_cases c4 : t315 = true
  · subst c4
    have H1 : (if (a0.size : Int) > 500 then (some true) else ((lex_Scan.f a0).bind fun bt316 => (if bt316.2.2.2 = 0 then (primerlaw04_LexBlank.l0 k l1 bt316.1 (⟨#[]⟩ : ByteArray) 0) else (some true)))) = some r := by rw [if_pos rfl] at H; exact H
    clear H
    have H := H1
    clear H1
    by_cases c5 : (a0.size : Int) > 500
    · rw [if_pos c5] at H
      have c5b0 : decide (500 < (a0.size : Int)) = true := decide_eq_true c5
      have c5b1 : decide (500 < a0.size) = true := decide_eq_true (by omega)
      clear c5
      obtain rfl := Option.some.inj H
      go_enter Try.func8, Try.ntmps8
      go_wp2_with (first | (go_at_call 9; (with_reducible refine (primerlaw04_speaks.calls  true _ A3.out).mono ?_); rintro e w6 ⟨rfl, hb⟩; have n0_ := Aside0.mk (below_step (by repeat (first | (with_reducible first | exact HB.out | apply below_alloc | apply pw_below_drewN | apply below_drew1) | exact HB.out)) hb); clear HB; have HB := n0_; clear n0_; (try clear hb); (try clear hb2); (try clear hk); (try clear hi)))
      repeat (go_quiet (first | (go_at_call 9; (with_reducible refine (primerlaw04_speaks.calls  true _ A3.out).mono ?_); rintro e w6 ⟨rfl, hb⟩; have n0_ := Aside0.mk (below_step (by repeat (first | (with_reducible first | exact HB.out | apply below_alloc | apply pw_below_drewN | apply below_drew1) | exact HB.out)) hb); clear HB; have HB := n0_; clear n0_; (try clear hb); (try clear hb2); (try clear hk); (try clear hi))); try go_wp2_with (first | (go_at_call 9; (with_reducible refine (primerlaw04_speaks.calls  true _ A3.out).mono ?_); rintro e w6 ⟨rfl, hb⟩; have n0_ := Aside0.mk (below_step (by repeat (first | (with_reducible first | exact HB.out | apply below_alloc | apply pw_below_drewN | apply below_drew1) | exact HB.out)) hb); clear HB; have HB := n0_; clear n0_; (try clear hb); (try clear hb2); (try clear hk); (try clear hi))))
      go_ret
      exact ⟨by first | rfl | (simp [errW_none, errW_some] <;> rfl) | (simp [*, errW_none, errW_some] <;> rfl), by repeat (first | (with_reducible first | exact HB.out | apply below_alloc | apply pw_below_drewN | apply below_drew1) | exact HB.out)⟩
    · rw [if_neg c5] at H
      have c5b0 : decide (500 < (a0.size : Int)) = false := decide_eq_false c5
      have c5b1 : decide (500 < a0.size) = false := decide_eq_false (by omega)
      clear c5
      replace H := Option.bind_eq_some_iff.mp H
      obtain ⟨⟨t316, t319, t320, t321⟩, A70, H⟩ := H
      replace H : (if t321 = 0 then (primerlaw04_LexBlank.l0 k l1 t316 (⟨#[]⟩ : ByteArray) 0) else (some true)) = some r := H
      have A7 := Aside0.mk A70
      clear A70
      by_cases c8 : t321 = 0
      · rw [if_pos c8] at H
        have c8b0 : (t321 == 0) = true := beq_iff_eq.mpr c8
        have c8b1 : (t321 != 0) = false := bne_eq_false_iff_eq.mpr c8
        clear c8
        have H' := Aside0.mk H
        clear H
        go_enter Try.func8, Try.ntmps8
        go_wp2_with (first | (go_at_call 9; (with_reducible refine (primerlaw04_speaks.calls  true _ A3.out).mono ?_); rintro e w9 ⟨rfl, hb⟩; have n0_ := Aside0.mk (below_step (by repeat (first | (with_reducible first | exact HB.out | apply below_alloc | apply pw_below_drewN | apply below_drew1) | exact HB.out)) hb); clear HB; have HB := n0_; clear n0_; (try clear hb); (try clear hb2); (try clear hk); (try clear hi)) | (go_at_call 11; (with_reducible refine (lex_Scan.calls a0 t316 t319 t320 t321 _ A7.out).mono ?_); rintro e w10 ⟨v317, rfl, ho0, hb⟩; have n0_ := Aside0.mk (Kd.R_lower ho0 (below_size (by repeat (first | (with_reducible first | exact HB.out | apply below_alloc | apply pw_below_drewN | apply below_drew1) | exact HB.out)))); have n1_ := Aside0.mk (below_step (by repeat (first | (with_reducible first | exact HB.out | apply below_alloc | apply pw_below_drewN | apply below_drew1) | exact HB.out)) hb); clear HB; have HO318 := n0_; have HB := n1_; clear n0_ n1_; (try clear hb); (try clear hb2); (try clear hk); (try clear hi); (try clear ho0)) | ((with_reducible refine gate_dst (N := 6) rfl ?_); (try (refine gate_guard (by rfl) ?_; dsimp only)); refine box_event ?hg (N := 6) ?hd (cs := #[.int .i64 0, .int .i64 0, .int .i64 0]) (t := 27) ?hr ?_; (case hd => rfl); (case hg => rfl); (case hr => first | (go_simp; done) | (go_simp; rfl)); intro gb322 hg w11 hbox hb; have n0_ := Aside0.mk (Kd.R_below (by (with_reducible repeat (first | apply Kd.R_alloc | apply Kd.R_drewN | apply Kd.R_drew)); exact HO318.out) hb); have n1_ := Aside0.mk (below_step (by repeat (first | (with_reducible first | exact HB.out | apply below_alloc | apply pw_below_drewN | apply below_drew1) | exact HB.out)) hb); have n2_ := Aside0.mk (hbox); have n3_ := Aside0.mk ((by rw [hg]; exact (below_size (by repeat (first | (with_reducible first | exact HB.out | apply below_alloc | apply pw_below_drewN | apply below_drew1) | exact HB.out))) : w.heap.size ≤ gb322)); have n4_ := Aside0.mk ((by rw [hg]; exact (below_size (by repeat (first | (with_reducible first | exact HB.out | apply below_alloc | apply pw_below_drewN | apply below_drew1) | exact HB.out))) : w.heap.size ≤ gb322)); clear HO318; clear HB; have HO318 := n0_; have HB := n1_; have BK322 := n2_; have GW322 := n3_; have GE322 := n4_; clear n0_ n1_ n2_ n3_ n4_; clear hb hbox hg; have hcz12_0 : w11.cell? ⟨gb322, 0, none⟩ = some (.int .i64 0) := (blk_cell BK322.out 0).trans rfl; have hcz12_1 : w11.cell? ⟨gb322, 1, none⟩ = some (.int .i64 0) := (blk_cell BK322.out 1).trans rfl; have hcz12_2 : w11.cell? ⟨gb322, 2, none⟩ = some (.int .i64 0) := (blk_cell BK322.out 2).trans rfl; have hfz12_0 := blk_frozen BK322.out 0; have hfz12_1 := blk_frozen BK322.out 1; have hfz12_2 := blk_frozen BK322.out 2))
        repeat (go_quiet (first | (go_at_call 9; (with_reducible refine (primerlaw04_speaks.calls  true _ A3.out).mono ?_); rintro e w9 ⟨rfl, hb⟩; have n0_ := Aside0.mk (below_step (by repeat (first | (with_reducible first | exact HB.out | apply below_alloc | apply pw_below_drewN | apply below_drew1) | exact HB.out)) hb); clear HB; have HB := n0_; clear n0_; (try clear hb); (try clear hb2); (try clear hk); (try clear hi)) | (go_at_call 11; (with_reducible refine (lex_Scan.calls a0 t316 t319 t320 t321 _ A7.out).mono ?_); rintro e w10 ⟨v317, rfl, ho0, hb⟩; have n0_ := Aside0.mk (Kd.R_lower ho0 (below_size (by repeat (first | (with_reducible first | exact HB.out | apply below_alloc | apply pw_below_drewN | apply below_drew1) | exact HB.out)))); have n1_ := Aside0.mk (below_step (by repeat (first | (with_reducible first | exact HB.out | apply below_alloc | apply pw_below_drewN | apply below_drew1) | exact HB.out)) hb); clear HB; have HO318 := n0_; have HB := n1_; clear n0_ n1_; (try clear hb); (try clear hb2); (try clear hk); (try clear hi); (try clear ho0)) | ((with_reducible refine gate_dst (N := 6) rfl ?_); (try (refine gate_guard (by rfl) ?_; dsimp only)); refine box_event ?hg (N := 6) ?hd (cs := #[.int .i64 0, .int .i64 0, .int .i64 0]) (t := 27) ?hr ?_; (case hd => rfl); (case hg => rfl); (case hr => first | (go_simp; done) | (go_simp; rfl)); intro gb322 hg w11 hbox hb; have n0_ := Aside0.mk (Kd.R_below (by (with_reducible repeat (first | apply Kd.R_alloc | apply Kd.R_drewN | apply Kd.R_drew)); exact HO318.out) hb); have n1_ := Aside0.mk (below_step (by repeat (first | (with_reducible first | exact HB.out | apply below_alloc | apply pw_below_drewN | apply below_drew1) | exact HB.out)) hb); have n2_ := Aside0.mk (hbox); have n3_ := Aside0.mk ((by rw [hg]; exact (below_size (by repeat (first | (with_reducible first | exact HB.out | apply below_alloc | apply pw_below_drewN | apply below_drew1) | exact HB.out))) : w.heap.size ≤ gb322)); have n4_ := Aside0.mk ((by rw [hg]; exact (below_size (by repeat (first | (with_reducible first | exact HB.out | apply below_alloc | apply pw_below_drewN | apply below_drew1) | exact HB.out))) : w.heap.size ≤ gb322)); clear HO318; clear HB; have HO318 := n0_; have HB := n1_; have BK322 := n2_; have GW322 := n3_; have GE322 := n4_; clear n0_ n1_ n2_ n3_ n4_; clear hb hbox hg; have hcz12_0 : w11.cell? ⟨gb322, 0, none⟩ = some (.int .i64 0) := (blk_cell BK322.out 0).trans rfl; have hcz12_1 : w11.cell? ⟨gb322, 1, none⟩ = some (.int .i64 0) := (blk_cell BK322.out 1).trans rfl; have hcz12_2 : w11.cell? ⟨gb322, 2, none⟩ = some (.int .i64 0) := (blk_cell BK322.out 2).trans rfl; have hfz12_0 := blk_frozen BK322.out 0; have hfz12_1 := blk_frozen BK322.out 1; have hfz12_2 := blk_frozen BK322.out 2)); try go_wp2_with (first | (go_at_call 9; (with_reducible refine (primerlaw04_speaks.calls  true _ A3.out).mono ?_); rintro e w9 ⟨rfl, hb⟩; have n0_ := Aside0.mk (below_step (by repeat (first | (with_reducible first | exact HB.out | apply below_alloc | apply pw_below_drewN | apply below_drew1) | exact HB.out)) hb); clear HB; have HB := n0_; clear n0_; (try clear hb); (try clear hb2); (try clear hk); (try clear hi)) | (go_at_call 11; (with_reducible refine (lex_Scan.calls a0 t316 t319 t320 t321 _ A7.out).mono ?_); rintro e w10 ⟨v317, rfl, ho0, hb⟩; have n0_ := Aside0.mk (Kd.R_lower ho0 (below_size (by repeat (first | (with_reducible first | exact HB.out | apply below_alloc | apply pw_below_drewN | apply below_drew1) | exact HB.out)))); have n1_ := Aside0.mk (below_step (by repeat (first | (with_reducible first | exact HB.out | apply below_alloc | apply pw_below_drewN | apply below_drew1) | exact HB.out)) hb); clear HB; have HO318 := n0_; have HB := n1_; clear n0_ n1_; (try clear hb); (try clear hb2); (try clear hk); (try clear hi); (try clear ho0)) | ((with_reducible refine gate_dst (N := 6) rfl ?_); (try (refine gate_guard (by rfl) ?_; dsimp only)); refine box_event ?hg (N := 6) ?hd (cs := #[.int .i64 0, .int .i64 0, .int .i64 0]) (t := 27) ?hr ?_; (case hd => rfl); (case hg => rfl); (case hr => first | (go_simp; done) | (go_simp; rfl)); intro gb322 hg w11 hbox hb; have n0_ := Aside0.mk (Kd.R_below (by (with_reducible repeat (first | apply Kd.R_alloc | apply Kd.R_drewN | apply Kd.R_drew)); exact HO318.out) hb); have n1_ := Aside0.mk (below_step (by repeat (first | (with_reducible first | exact HB.out | apply below_alloc | apply pw_below_drewN | apply below_drew1) | exact HB.out)) hb); have n2_ := Aside0.mk (hbox); have n3_ := Aside0.mk ((by rw [hg]; exact (below_size (by repeat (first | (with_reducible first | exact HB.out | apply below_alloc | apply pw_below_drewN | apply below_drew1) | exact HB.out))) : w.heap.size ≤ gb322)); have n4_ := Aside0.mk ((by rw [hg]; exact (below_size (by repeat (first | (with_reducible first | exact HB.out | apply below_alloc | apply pw_below_drewN | apply below_drew1) | exact HB.out))) : w.heap.size ≤ gb322)); clear HO318; clear HB; have HO318 := n0_; have HB := n1_; have BK322 := n2_; have GW322 := n3_; have GE322 := n4_; clear n0_ n1_ n2_ n3_ n4_; clear hb hbox hg; have hcz12_0 : w11.cell? ⟨gb322, 0, none⟩ = some (.int .i64 0) := (blk_cell BK322.out 0).trans rfl; have hcz12_1 : w11.cell? ⟨gb322, 1, none⟩ = some (.int .i64 0) := (blk_cell BK322.out 1).trans rfl; have hcz12_2 : w11.cell? ⟨gb322, 2, none⟩ = some (.int .i64 0) := (blk_cell BK322.out 2).trans rfl; have hfz12_0 := blk_frozen BK322.out 0; have hfz12_1 := blk_frozen BK322.out 1; have hfz12_2 := blk_frozen BK322.out 2)))
        go_loopg [7, 8] k (fun kq v7 v8 w' => ∃ (x7_1 : ByteArray) (x8_1 : Int), v7 = .string x7_1 ∧ v8 = .int .i64 x8_1 ∧ Aside0 (primerlaw04_LexBlank.l0 kq l1 t316 x7_1 x8_1 = some r) ∧ Aside0 (kq ≤ k) ∧ Aside0 (Kd.R k31 31 w' w.heap.size (fun _ => True) v317 t316) ∧ Aside0 (w'.heap[gb322]? = some (.cells #[.int .i64 t319, .int .i64 t320, .int .i64 t321] 27 (0, 0))) ∧ Aside0 (Below w.heap.size w w'))
        case atStart => exact ⟨((⟨#[]⟩ : ByteArray)), (0), (by first | rfl | (simp; done) | (simp [*]; done)), (by first | rfl | (simp; done) | (simp [*]; done)), H', ⟨Nat.le_refl _⟩, ⟨by (with_reducible repeat (first | apply Kd.R_alloc | apply Kd.R_drewN | apply Kd.R_drew)); exact Kd.R_mono (Kd.R_far (p := ⟨gb322, 2, none⟩) (Kd.R_far (p := ⟨gb322, 1, none⟩) (Kd.R_far (p := ⟨gb322, 0, none⟩) (Kd.R_types HO318.out BK322.out (by decide)) (fun _ hk => hk.2) (.int .i64 t319)) (fun _ hk => hk.2) (.int .i64 t320)) (fun _ hk => hk.2) (.int .i64 t321)) (fun _ hk => trivial)⟩, ⟨by (with_reducible repeat (first | refine blk_drewN ?_ _ | refine blk_drew ?_ | refine blk_alloc ?_ _)); refine blk_put (cs := #[.int .i64 t319, .int .i64 t320, .int .i64 0]) ?_ 2 _ rfl; (with_reducible repeat (first | refine blk_drewN ?_ _ | refine blk_drew ?_ | refine blk_alloc ?_ _)); refine blk_put (cs := #[.int .i64 t319, .int .i64 0, .int .i64 0]) ?_ 1 _ rfl; (with_reducible repeat (first | refine blk_drewN ?_ _ | refine blk_drew ?_ | refine blk_alloc ?_ _)); refine blk_put (cs := #[.int .i64 0, .int .i64 0, .int .i64 0]) ?_ 0 _ rfl; (with_reducible repeat (first | refine blk_drewN ?_ _ | refine blk_drew ?_ | refine blk_alloc ?_ _)); exact BK322.out⟩, ⟨by repeat (first | (with_reducible first | exact HB.out | apply below_alloc | apply pw_below_drewN | apply below_drew1 | refine below_set ?_ GE322.out) | exact HB.out)⟩⟩
        case round =>
          clear H'
          try clear c1
          try clear p2
          try clear c4
          try clear c5
          try clear c5b0
          try clear c5b1
          try clear c8
          try clear c8b0
          try clear c8b1
          try clear hcz12_0
          try clear hcz12_1
          try clear hcz12_2
          try clear hfz12_0
          try clear hfz12_1
          try clear hfz12_2
          obtain ⟨x7_1, x8_1, rfl, rfl, HA, HK1, HO_5, BK322, HB⟩ := hrel
          cases gk with
          | zero => exact absurd HA.out (by simp [primerlaw04_LexBlank.l0])
          | succ k1 =>
            have H := HA.out
            clear HA
            simp only [primerlaw04_LexBlank.l0] at H
            by_cases c13 : x8_1 < (wrap64 ((t316.length : Int) - 1))
            · rw [if_pos c13] at H
              have c13b0 : decide (x8_1 < (wrap64 ((t316.length : Int) - 1))) = true := decide_eq_true c13
              clear c13
              by_cases c14 : x8_1 < (l1.length : Int)
              · rw [if_pos c14] at H
                have c14b0 : decide (x8_1 < (l1.length : Int)) = true := decide_eq_true c14
                clear c14
                by_cases c15 : 0 ≤ x8_1
                · rw [if_pos c15] at H
                  have c15b0 : decide (0 ≤ x8_1) = true := decide_eq_true c15
                  clear c15
                  obtain ⟨y324, hy324⟩ : ∃ y_ : List ByteArray, y_ = (([(⟨#[32]⟩ : ByteArray), (⟨#[9, 10]⟩ : ByteArray), (⟨#[32, 35, 32, 110, 111, 32, 116, 111, 107, 101, 110, 32, 39, 32, 104, 101, 114, 101, 10]⟩ : ByteArray), (⟨#[13, 10, 32]⟩ : ByteArray)] : List ByteArray)) := ⟨_, rfl⟩
                  replace H : (if 0 ≤ (Go.bits .and .i64 (rd l1 x8_1) 3) then (if (Go.bits .and .i64 (rd l1 x8_1) 3) < (y324.length : Int) then (if x7_1.size + (rdOf ByteArray.empty y324 (Go.bits .and .i64 (rd l1 x8_1) 3)).size ≤ 9223372036854775807 then (if x8_1 < (t316.length : Int) then (if ((rd_T31 t316 x8_1).f0) = 2 then ((lex_Quote.f k1 ((rd_T31 t316 x8_1).f1)).bind fun t330 => (if (x7_1 ++ (rdOf ByteArray.empty y324 (Go.bits .and .i64 (rd l1 x8_1) 3))).size + t330.size ≤ 9223372036854775807 then (primerlaw04_LexBlank.l0 k1 l1 t316 ((x7_1 ++ (rdOf ByteArray.empty y324 (Go.bits .and .i64 (rd l1 x8_1) 3))) ++ t330) (wrap64 (x8_1 + 1))) else (none))) else (if (x7_1 ++ (rdOf ByteArray.empty y324 (Go.bits .and .i64 (rd l1 x8_1) 3))).size + ((rd_T31 t316 x8_1).f1).size ≤ 9223372036854775807 then (primerlaw04_LexBlank.l0 k1 l1 t316 ((x7_1 ++ (rdOf ByteArray.empty y324 (Go.bits .and .i64 (rd l1 x8_1) 3))) ++ ((rd_T31 t316 x8_1).f1)) (wrap64 (x8_1 + 1))) else (none))) else (none)) else (none)) else (none)) else (none)) = some r := by first | (rw [hy324]; with_reducible exact H) | (have H2_ := (Option.bind_some _ _).symm.trans H; rw [hy324]; with_reducible exact H2_) | (have H2_ := (Option.bind_some _ _).symm.trans H; with_reducible exact H2_) | with_reducible exact H | (rw [hy324]; exact H) | exact H
                  have Ny324 := Aside0.mk hy324
                  clear hy324
                  by_cases c16 : 0 ≤ (Go.bits .and .i64 (rd l1 x8_1) 3)
                  · rw [if_pos c16] at H
                    have c16b0 : decide (0 ≤ (Go.bits .and .i64 (rd l1 x8_1) 3)) = true := decide_eq_true c16
                    clear c16
                    by_cases c17 : (Go.bits .and .i64 (rd l1 x8_1) 3) < (y324.length : Int)
                    · rw [if_pos c17] at H
                      have c17b0 : decide ((Go.bits .and .i64 (rd l1 x8_1) 3) < (y324.length : Int)) = true := decide_eq_true c17
                      clear c17
                      by_cases c18 : x7_1.size + (rdOf ByteArray.empty y324 (Go.bits .and .i64 (rd l1 x8_1) 3)).size ≤ 9223372036854775807
                      · rw [if_pos c18] at H
                        have c18b0 := eq_true c18
                        have c18b1 : decide (x7_1.size + (rdOf ByteArray.empty y324 (Go.bits .and .i64 (rd l1 x8_1) 3)).size ≤ 9223372036854775807) = true := decide_eq_true c18
                        try have c18b2 : (9223372036854775807 < x7_1.size + (rdOf ByteArray.empty y324 (Go.bits .and .i64 (rd l1 x8_1) 3)).size) = False := eq_false (Nat.not_lt.2 c18)
                        by_cases c19 : x8_1 < (t316.length : Int)
                        · rw [if_pos c19] at H
                          have c19b0 : decide (x8_1 < (t316.length : Int)) = true := decide_eq_true c19
                          clear c19
                          by_cases c20 : ((rd_T31 t316 x8_1).f0) = 2
                          · rw [if_pos c20] at H
                            have c20b0 : (((rd_T31 t316 x8_1).f0) == 2) = true := beq_iff_eq.mpr c20
                            have c20b1 : (((rd_T31 t316 x8_1).f0) != 2) = false := bne_eq_false_iff_eq.mpr c20
                            clear c20
                            replace H := Option.bind_eq_some_iff.mp H
                            obtain ⟨t330, A210, H⟩ := H
                            replace H : (if (x7_1 ++ (rdOf ByteArray.empty y324 (Go.bits .and .i64 (rd l1 x8_1) 3))).size + t330.size ≤ 9223372036854775807 then (primerlaw04_LexBlank.l0 k1 l1 t316 ((x7_1 ++ (rdOf ByteArray.empty y324 (Go.bits .and .i64 (rd l1 x8_1) 3))) ++ t330) (wrap64 (x8_1 + 1))) else (none)) = some r := H
                            have A21 := Aside0.mk A210
                            clear A210
                            by_cases c22 : (x7_1 ++ (rdOf ByteArray.empty y324 (Go.bits .and .i64 (rd l1 x8_1) 3))).size + t330.size ≤ 9223372036854775807
                            · rw [if_pos c22] at H
                              have c22b0 := eq_true c22
                              have c22b1 : decide ((x7_1 ++ (rdOf ByteArray.empty y324 (Go.bits .and .i64 (rd l1 x8_1) 3))).size + t330.size ≤ 9223372036854775807) = true := decide_eq_true c22
                              try have c22b2 : (9223372036854775807 < (x7_1 ++ (rdOf ByteArray.empty y324 (Go.bits .and .i64 (rd l1 x8_1) 3))).size + t330.size) = False := eq_false (Nat.not_lt.2 c22)
                              have H' := Aside0.mk H
                              clear H
                              obtain ⟨Ao23, co23, eo23⟩ := Kd.R_slice HO_5.out
                              subst eo23
                              have p323 : 0 ≤ (x8_1 : Int) := of_decide_eq_true (by first | (with_reducible assumption) | assumption)
                              have q323 : x8_1 < (l1.length : Int) := of_decide_eq_true (by first | (with_reducible assumption) | assumption)
                              obtain ⟨ad323, e323, hx323_0⟩ := Kd.at_int HR1.out x8_1 p323 q323
                              cases e323
                              replace hx323_0 := (HB.out.cell (World.block_lt_of_cell? w _ hx323_0)).trans hx323_0
                              replace p323 := eq_true p323
                              replace q323 := eq_true q323
                              go_wp2_with (first | ((with_reducible refine gate_dst (N := 43) rfl ?_); (try (refine gate_guard (by rfl) ?_; dsimp only)); refine Kd.R_lit Kd.string _ 9 ?hg (N := 43) ?hd (xs := ([(⟨#[32]⟩ : ByteArray), (⟨#[9, 10]⟩ : ByteArray), (⟨#[32, 35, 32, 110, 111, 32, 116, 111, 107, 101, 110, 32, 39, 32, 104, 101, 114, 101, 10]⟩ : ByteArray), (⟨#[13, 10, 32]⟩ : ByteArray)] : List ByteArray)) (inner := [.string (⟨#[32]⟩ : ByteArray), .string (⟨#[9, 10]⟩ : ByteArray), .string (⟨#[32, 35, 32, 110, 111, 32, 116, 111, 107, 101, 110, 32, 39, 32, 104, 101, 114, 101, 10]⟩ : ByteArray), .string (⟨#[13, 10, 32]⟩ : ByteArray)]) (ok := fun _ => True) (okp := fun _ => True) ?hr ?hp (fun _ hk => hk) trivial (Below.refl _ _) (Nat.le_refl _) (by simp) ?_; (case hd => rfl); (case hg => rfl); (case hr => first | (go_simp; done) | (go_simp; rfl)); (case hp => exact (Reps.one (show Kd.M Kd.string _ _ _ (⟨#[32]⟩ : ByteArray) [.string (⟨#[32]⟩ : ByteArray)] from rfl) (Reps.one (show Kd.M Kd.string _ _ _ (⟨#[9, 10]⟩ : ByteArray) [.string (⟨#[9, 10]⟩ : ByteArray)] from rfl) (Reps.one (show Kd.M Kd.string _ _ _ (⟨#[32, 35, 32, 110, 111, 32, 116, 111, 107, 101, 110, 32, 39, 32, 104, 101, 114, 101, 10]⟩ : ByteArray) [.string (⟨#[32, 35, 32, 110, 111, 32, 116, 111, 107, 101, 110, 32, 39, 32, 104, 101, 114, 101, 10]⟩ : ByteArray)] from rfl) (Reps.one (show Kd.M Kd.string _ _ _ (⟨#[13, 10, 32]⟩ : ByteArray) [.string (⟨#[13, 10, 32]⟩ : ByteArray)] from rfl) (Reps.none _ _)))))); intro v325 w24 ho25 hb hg_ hnew_; clear hg_ hnew_; (first | rw [← Ny324.out] at ho25 | (simp only [Int.reduceToNat] at ho25; rw [← Ny324.out] at ho25)); have n0_ := Aside0.mk (Kd.R_below (by (with_reducible repeat (first | apply Kd.R_alloc | apply Kd.R_drewN | apply Kd.R_drew)); exact HO_5.out) hb); have n1_ := Aside0.mk (Kd.R_lower ho25 (below_size (by repeat (first | (with_reducible first | exact HB.out | apply below_alloc | apply pw_below_drewN | apply below_drew1 | refine below_set ?_ GE322.out) | exact HB.out)))); have n2_ := Aside0.mk (blk_below (g := gb322) (o := .cells #[.int .i64 t319, .int .i64 t320, .int .i64 t321] 27 (0, 0)) (by (with_reducible repeat (first | refine blk_drewN ?_ _ | refine blk_drew ?_ | refine blk_alloc ?_ _)); exact BK322.out) hb); have n3_ := Aside0.mk (below_step (by repeat (first | (with_reducible first | exact HB.out | apply below_alloc | apply pw_below_drewN | apply below_drew1 | refine below_set ?_ GE322.out) | exact HB.out)) hb); clear HO_5; clear BK322; clear HB; have HO_5 := n0_; have HO326 := n1_; have BK322 := n2_; have HB := n3_; clear n0_ n1_ n2_ n3_; clear hb ho25; obtain ⟨Ao26, co26, eo26⟩ := Kd.R_slice HO326.out; subst eo26; have p327 : 0 ≤ ((Go.bits .and .i64 (rd l1 x8_1) 3) : Int) := of_decide_eq_true (by first | (with_reducible assumption) | assumption); have q327 : (Go.bits .and .i64 (rd l1 x8_1) 3) < (y324.length : Int) := of_decide_eq_true (by first | (with_reducible assumption) | assumption); obtain ⟨ad327, e327, hx327_0⟩ := Kd.at_string (Kd.R_reads' HO326.out).2.2 (Go.bits .and .i64 (rd l1 x8_1) 3) p327 q327; cases e327; replace p327 := eq_true p327; replace q327 := eq_true q327; have p328 : 0 ≤ (x8_1 : Int) := of_decide_eq_true (by first | (with_reducible assumption) | assumption); have q328 : x8_1 < (t316.length : Int) := of_decide_eq_true (by first | (with_reducible assumption) | assumption); obtain ⟨ad328, e328, hx328_0, hx328_1, hx328_2, hx328_3⟩ := at_T31 (Kd.R_reads' HO_5.out).2.2 x8_1 p328 q328; cases e328; replace p328 := eq_true p328; replace q328 := eq_true q328; have p329 : 0 ≤ (x8_1 : Int) := of_decide_eq_true (by first | (with_reducible assumption) | assumption); have q329 : x8_1 < (t316.length : Int) := of_decide_eq_true (by first | (with_reducible assumption) | assumption); obtain ⟨ad329, e329, hx329_0, hx329_1, hx329_2, hx329_3⟩ := at_T31 (Kd.R_reads' HO_5.out).2.2 x8_1 p329 q329; obtain rfl : ad328 = ad329 := (by injection e329); replace p329 := eq_true p329; replace q329 := eq_true q329) | (go_at_call 14; (with_reducible refine (lex_Quote.calls k1 ((rd_T31 t316 x8_1).f1) t330 _ A21.out).mono ?_); rintro e w27 ⟨rfl, hb⟩; have n0_ := Aside0.mk (Kd.R_below (by (with_reducible repeat (first | apply Kd.R_alloc | apply Kd.R_drewN | apply Kd.R_drew)); exact HO_5.out) hb); have n1_ := Aside0.mk (Kd.R_below (by (with_reducible repeat (first | apply Kd.R_alloc | apply Kd.R_drewN | apply Kd.R_drew)); exact HO326.out) hb); have n2_ := Aside0.mk (blk_below (g := gb322) (o := .cells #[.int .i64 t319, .int .i64 t320, .int .i64 t321] 27 (0, 0)) (by (with_reducible repeat (first | refine blk_drewN ?_ _ | refine blk_drew ?_ | refine blk_alloc ?_ _)); exact BK322.out) hb); have n3_ := Aside0.mk (below_step (by repeat (first | (with_reducible first | exact HB.out | apply below_alloc | apply pw_below_drewN | apply below_drew1 | refine below_set ?_ GE322.out) | exact HB.out)) hb); clear HO_5; clear HO326; clear BK322; clear HB; have HO_5 := n0_; have HO326 := n1_; have BK322 := n2_; have HB := n3_; clear n0_ n1_ n2_ n3_; (try clear hb); (try clear hb2); (try clear hk); (try clear hi)))
                              repeat (go_quiet (first | ((with_reducible refine gate_dst (N := 43) rfl ?_); (try (refine gate_guard (by rfl) ?_; dsimp only)); refine Kd.R_lit Kd.string _ 9 ?hg (N := 43) ?hd (xs := ([(⟨#[32]⟩ : ByteArray), (⟨#[9, 10]⟩ : ByteArray), (⟨#[32, 35, 32, 110, 111, 32, 116, 111, 107, 101, 110, 32, 39, 32, 104, 101, 114, 101, 10]⟩ : ByteArray), (⟨#[13, 10, 32]⟩ : ByteArray)] : List ByteArray)) (inner := [.string (⟨#[32]⟩ : ByteArray), .string (⟨#[9, 10]⟩ : ByteArray), .string (⟨#[32, 35, 32, 110, 111, 32, 116, 111, 107, 101, 110, 32, 39, 32, 104, 101, 114, 101, 10]⟩ : ByteArray), .string (⟨#[13, 10, 32]⟩ : ByteArray)]) (ok := fun _ => True) (okp := fun _ => True) ?hr ?hp (fun _ hk => hk) trivial (Below.refl _ _) (Nat.le_refl _) (by simp) ?_; (case hd => rfl); (case hg => rfl); (case hr => first | (go_simp; done) | (go_simp; rfl)); (case hp => exact (Reps.one (show Kd.M Kd.string _ _ _ (⟨#[32]⟩ : ByteArray) [.string (⟨#[32]⟩ : ByteArray)] from rfl) (Reps.one (show Kd.M Kd.string _ _ _ (⟨#[9, 10]⟩ : ByteArray) [.string (⟨#[9, 10]⟩ : ByteArray)] from rfl) (Reps.one (show Kd.M Kd.string _ _ _ (⟨#[32, 35, 32, 110, 111, 32, 116, 111, 107, 101, 110, 32, 39, 32, 104, 101, 114, 101, 10]⟩ : ByteArray) [.string (⟨#[32, 35, 32, 110, 111, 32, 116, 111, 107, 101, 110, 32, 39, 32, 104, 101, 114, 101, 10]⟩ : ByteArray)] from rfl) (Reps.one (show Kd.M Kd.string _ _ _ (⟨#[13, 10, 32]⟩ : ByteArray) [.string (⟨#[13, 10, 32]⟩ : ByteArray)] from rfl) (Reps.none _ _)))))); intro v325 w24 ho25 hb hg_ hnew_; clear hg_ hnew_; (first | rw [← Ny324.out] at ho25 | (simp only [Int.reduceToNat] at ho25; rw [← Ny324.out] at ho25)); have n0_ := Aside0.mk (Kd.R_below (by (with_reducible repeat (first | apply Kd.R_alloc | apply Kd.R_drewN | apply Kd.R_drew)); exact HO_5.out) hb); have n1_ := Aside0.mk (Kd.R_lower ho25 (below_size (by repeat (first | (with_reducible first | exact HB.out | apply below_alloc | apply pw_below_drewN | apply below_drew1 | refine below_set ?_ GE322.out) | exact HB.out)))); have n2_ := Aside0.mk (blk_below (g := gb322) (o := .cells #[.int .i64 t319, .int .i64 t320, .int .i64 t321] 27 (0, 0)) (by (with_reducible repeat (first | refine blk_drewN ?_ _ | refine blk_drew ?_ | refine blk_alloc ?_ _)); exact BK322.out) hb); have n3_ := Aside0.mk (below_step (by repeat (first | (with_reducible first | exact HB.out | apply below_alloc | apply pw_below_drewN | apply below_drew1 | refine below_set ?_ GE322.out) | exact HB.out)) hb); clear HO_5; clear BK322; clear HB; have HO_5 := n0_; have HO326 := n1_; have BK322 := n2_; have HB := n3_; clear n0_ n1_ n2_ n3_; clear hb ho25; obtain ⟨Ao26, co26, eo26⟩ := Kd.R_slice HO326.out; subst eo26; have p327 : 0 ≤ ((Go.bits .and .i64 (rd l1 x8_1) 3) : Int) := of_decide_eq_true (by first | (with_reducible assumption) | assumption); have q327 : (Go.bits .and .i64 (rd l1 x8_1) 3) < (y324.length : Int) := of_decide_eq_true (by first | (with_reducible assumption) | assumption); obtain ⟨ad327, e327, hx327_0⟩ := Kd.at_string (Kd.R_reads' HO326.out).2.2 (Go.bits .and .i64 (rd l1 x8_1) 3) p327 q327; cases e327; replace p327 := eq_true p327; replace q327 := eq_true q327; have p328 : 0 ≤ (x8_1 : Int) := of_decide_eq_true (by first | (with_reducible assumption) | assumption); have q328 : x8_1 < (t316.length : Int) := of_decide_eq_true (by first | (with_reducible assumption) | assumption); obtain ⟨ad328, e328, hx328_0, hx328_1, hx328_2, hx328_3⟩ := at_T31 (Kd.R_reads' HO_5.out).2.2 x8_1 p328 q328; cases e328; replace p328 := eq_true p328; replace q328 := eq_true q328; have p329 : 0 ≤ (x8_1 : Int) := of_decide_eq_true (by first | (with_reducible assumption) | assumption); have q329 : x8_1 < (t316.length : Int) := of_decide_eq_true (by first | (with_reducible assumption) | assumption); obtain ⟨ad329, e329, hx329_0, hx329_1, hx329_2, hx329_3⟩ := at_T31 (Kd.R_reads' HO_5.out).2.2 x8_1 p329 q329; obtain rfl : ad328 = ad329 := (by injection e329); replace p329 := eq_true p329; replace q329 := eq_true q329) | (go_at_call 14; (with_reducible refine (lex_Quote.calls k1 ((rd_T31 t316 x8_1).f1) t330 _ A21.out).mono ?_); rintro e w27 ⟨rfl, hb⟩; have n0_ := Aside0.mk (Kd.R_below (by (with_reducible repeat (first | apply Kd.R_alloc | apply Kd.R_drewN | apply Kd.R_drew)); exact HO_5.out) hb); have n1_ := Aside0.mk (Kd.R_below (by (with_reducible repeat (first | apply Kd.R_alloc | apply Kd.R_drewN | apply Kd.R_drew)); exact HO326.out) hb); have n2_ := Aside0.mk (blk_below (g := gb322) (o := .cells #[.int .i64 t319, .int .i64 t320, .int .i64 t321] 27 (0, 0)) (by (with_reducible repeat (first | refine blk_drewN ?_ _ | refine blk_drew ?_ | refine blk_alloc ?_ _)); exact BK322.out) hb); have n3_ := Aside0.mk (below_step (by repeat (first | (with_reducible first | exact HB.out | apply below_alloc | apply pw_below_drewN | apply below_drew1 | refine below_set ?_ GE322.out) | exact HB.out)) hb); clear HO_5; clear HO326; clear BK322; clear HB; have HO_5 := n0_; have HO326 := n1_; have BK322 := n2_; have HB := n3_; clear n0_ n1_ n2_ n3_; (try clear hb); (try clear hb2); (try clear hk); (try clear hi))); try go_wp2_with (first | ((with_reducible refine gate_dst (N := 43) rfl ?_); (try (refine gate_guard (by rfl) ?_; dsimp only)); refine Kd.R_lit Kd.string _ 9 ?hg (N := 43) ?hd (xs := ([(⟨#[32]⟩ : ByteArray), (⟨#[9, 10]⟩ : ByteArray), (⟨#[32, 35, 32, 110, 111, 32, 116, 111, 107, 101, 110, 32, 39, 32, 104, 101, 114, 101, 10]⟩ : ByteArray), (⟨#[13, 10, 32]⟩ : ByteArray)] : List ByteArray)) (inner := [.string (⟨#[32]⟩ : ByteArray), .string (⟨#[9, 10]⟩ : ByteArray), .string (⟨#[32, 35, 32, 110, 111, 32, 116, 111, 107, 101, 110, 32, 39, 32, 104, 101, 114, 101, 10]⟩ : ByteArray), .string (⟨#[13, 10, 32]⟩ : ByteArray)]) (ok := fun _ => True) (okp := fun _ => True) ?hr ?hp (fun _ hk => hk) trivial (Below.refl _ _) (Nat.le_refl _) (by simp) ?_; (case hd => rfl); (case hg => rfl); (case hr => first | (go_simp; done) | (go_simp; rfl)); (case hp => exact (Reps.one (show Kd.M Kd.string _ _ _ (⟨#[32]⟩ : ByteArray) [.string (⟨#[32]⟩ : ByteArray)] from rfl) (Reps.one (show Kd.M Kd.string _ _ _ (⟨#[9, 10]⟩ : ByteArray) [.string (⟨#[9, 10]⟩ : ByteArray)] from rfl) (Reps.one (show Kd.M Kd.string _ _ _ (⟨#[32, 35, 32, 110, 111, 32, 116, 111, 107, 101, 110, 32, 39, 32, 104, 101, 114, 101, 10]⟩ : ByteArray) [.string (⟨#[32, 35, 32, 110, 111, 32, 116, 111, 107, 101, 110, 32, 39, 32, 104, 101, 114, 101, 10]⟩ : ByteArray)] from rfl) (Reps.one (show Kd.M Kd.string _ _ _ (⟨#[13, 10, 32]⟩ : ByteArray) [.string (⟨#[13, 10, 32]⟩ : ByteArray)] from rfl) (Reps.none _ _)))))); intro v325 w24 ho25 hb hg_ hnew_; clear hg_ hnew_; (first | rw [← Ny324.out] at ho25 | (simp only [Int.reduceToNat] at ho25; rw [← Ny324.out] at ho25)); have n0_ := Aside0.mk (Kd.R_below (by (with_reducible repeat (first | apply Kd.R_alloc | apply Kd.R_drewN | apply Kd.R_drew)); exact HO_5.out) hb); have n1_ := Aside0.mk (Kd.R_lower ho25 (below_size (by repeat (first | (with_reducible first | exact HB.out | apply below_alloc | apply pw_below_drewN | apply below_drew1 | refine below_set ?_ GE322.out) | exact HB.out)))); have n2_ := Aside0.mk (blk_below (g := gb322) (o := .cells #[.int .i64 t319, .int .i64 t320, .int .i64 t321] 27 (0, 0)) (by (with_reducible repeat (first | refine blk_drewN ?_ _ | refine blk_drew ?_ | refine blk_alloc ?_ _)); exact BK322.out) hb); have n3_ := Aside0.mk (below_step (by repeat (first | (with_reducible first | exact HB.out | apply below_alloc | apply pw_below_drewN | apply below_drew1 | refine below_set ?_ GE322.out) | exact HB.out)) hb); clear HO_5; clear BK322; clear HB; have HO_5 := n0_; have HO326 := n1_; have BK322 := n2_; have HB := n3_; clear n0_ n1_ n2_ n3_; clear hb ho25; obtain ⟨Ao26, co26, eo26⟩ := Kd.R_slice HO326.out; subst eo26; have p327 : 0 ≤ ((Go.bits .and .i64 (rd l1 x8_1) 3) : Int) := of_decide_eq_true (by first | (with_reducible assumption) | assumption); have q327 : (Go.bits .and .i64 (rd l1 x8_1) 3) < (y324.length : Int) := of_decide_eq_true (by first | (with_reducible assumption) | assumption); obtain ⟨ad327, e327, hx327_0⟩ := Kd.at_string (Kd.R_reads' HO326.out).2.2 (Go.bits .and .i64 (rd l1 x8_1) 3) p327 q327; cases e327; replace p327 := eq_true p327; replace q327 := eq_true q327; have p328 : 0 ≤ (x8_1 : Int) := of_decide_eq_true (by first | (with_reducible assumption) | assumption); have q328 : x8_1 < (t316.length : Int) := of_decide_eq_true (by first | (with_reducible assumption) | assumption); obtain ⟨ad328, e328, hx328_0, hx328_1, hx328_2, hx328_3⟩ := at_T31 (Kd.R_reads' HO_5.out).2.2 x8_1 p328 q328; cases e328; replace p328 := eq_true p328; replace q328 := eq_true q328; have p329 : 0 ≤ (x8_1 : Int) := of_decide_eq_true (by first | (with_reducible assumption) | assumption); have q329 : x8_1 < (t316.length : Int) := of_decide_eq_true (by first | (with_reducible assumption) | assumption); obtain ⟨ad329, e329, hx329_0, hx329_1, hx329_2, hx329_3⟩ := at_T31 (Kd.R_reads' HO_5.out).2.2 x8_1 p329 q329; obtain rfl : ad328 = ad329 := (by injection e329); replace p329 := eq_true p329; replace q329 := eq_true q329) | (go_at_call 14; (with_reducible refine (lex_Quote.calls k1 ((rd_T31 t316 x8_1).f1) t330 _ A21.out).mono ?_); rintro e w27 ⟨rfl, hb⟩; have n0_ := Aside0.mk (Kd.R_below (by (with_reducible repeat (first | apply Kd.R_alloc | apply Kd.R_drewN | apply Kd.R_drew)); exact HO_5.out) hb); have n1_ := Aside0.mk (Kd.R_below (by (with_reducible repeat (first | apply Kd.R_alloc | apply Kd.R_drewN | apply Kd.R_drew)); exact HO326.out) hb); have n2_ := Aside0.mk (blk_below (g := gb322) (o := .cells #[.int .i64 t319, .int .i64 t320, .int .i64 t321] 27 (0, 0)) (by (with_reducible repeat (first | refine blk_drewN ?_ _ | refine blk_drew ?_ | refine blk_alloc ?_ _)); exact BK322.out) hb); have n3_ := Aside0.mk (below_step (by repeat (first | (with_reducible first | exact HB.out | apply below_alloc | apply pw_below_drewN | apply below_drew1 | refine below_set ?_ GE322.out) | exact HB.out)) hb); clear HO_5; clear HO326; clear BK322; clear HB; have HO_5 := n0_; have HO326 := n1_; have BK322 := n2_; have HB := n3_; clear n0_ n1_ n2_ n3_; (try clear hb); (try clear hb2); (try clear hk); (try clear hi))))
                              go_roundg k1
                              case measure => have := HK1.out; omega
                              case rel => exact ⟨((x7_1 ++ (rdOf ByteArray.empty y324 (Go.bits .and .i64 (rd l1 x8_1) 3))) ++ t330), (wrap64 (x8_1 + 1)), (by first | rfl | (simp; done) | (simp [*]; done)), (by first | rfl | (simp; done) | (simp [*]; done)), H', ⟨by have := HK1.out; omega⟩, ⟨by (with_reducible repeat (first | apply Kd.R_alloc | apply Kd.R_drewN | apply Kd.R_drew)); exact HO_5.out⟩, ⟨by (with_reducible repeat (first | refine blk_drewN ?_ _ | refine blk_drew ?_ | refine blk_alloc ?_ _)); exact BK322.out⟩, ⟨by repeat (first | (with_reducible first | exact HB.out | apply below_alloc | apply pw_below_drewN | apply below_drew1 | refine below_set ?_ GE322.out) | exact HB.out)⟩⟩
                            · rw [if_neg c22] at H
                              exact absurd H (by simp)
                          · rw [if_neg c20] at H
                            have c20b0 : (((rd_T31 t316 x8_1).f0) == 2) = false := beq_eq_false_iff_ne.mpr c20
                            have c20b1 : (((rd_T31 t316 x8_1).f0) != 2) = true := bne_iff_ne.mpr c20
                            by_cases c28 : (x7_1 ++ (rdOf ByteArray.empty y324 (Go.bits .and .i64 (rd l1 x8_1) 3))).size + ((rd_T31 t316 x8_1).f1).size ≤ 9223372036854775807
                            · rw [if_pos c28] at H
                              have c28b0 := eq_true c28
                              have c28b1 : decide ((x7_1 ++ (rdOf ByteArray.empty y324 (Go.bits .and .i64 (rd l1 x8_1) 3))).size + ((rd_T31 t316 x8_1).f1).size ≤ 9223372036854775807) = true := decide_eq_true c28
                              try have c28b2 : (9223372036854775807 < (x7_1 ++ (rdOf ByteArray.empty y324 (Go.bits .and .i64 (rd l1 x8_1) 3))).size + ((rd_T31 t316 x8_1).f1).size) = False := eq_false (Nat.not_lt.2 c28)
                              have H' := Aside0.mk H
                              clear H
                              obtain ⟨Ao29, co29, eo29⟩ := Kd.R_slice HO_5.out
                              subst eo29
                              have p323 : 0 ≤ (x8_1 : Int) := of_decide_eq_true (by first | (with_reducible assumption) | assumption)
                              have q323 : x8_1 < (l1.length : Int) := of_decide_eq_true (by first | (with_reducible assumption) | assumption)
                              obtain ⟨ad323, e323, hx323_0⟩ := Kd.at_int HR1.out x8_1 p323 q323
                              cases e323
                              replace hx323_0 := (HB.out.cell (World.block_lt_of_cell? w _ hx323_0)).trans hx323_0
                              replace p323 := eq_true p323
                              replace q323 := eq_true q323
                              go_wp2_with (first | ((with_reducible refine gate_dst (N := 43) rfl ?_); (try (refine gate_guard (by rfl) ?_; dsimp only)); refine Kd.R_lit Kd.string _ 9 ?hg (N := 43) ?hd (xs := ([(⟨#[32]⟩ : ByteArray), (⟨#[9, 10]⟩ : ByteArray), (⟨#[32, 35, 32, 110, 111, 32, 116, 111, 107, 101, 110, 32, 39, 32, 104, 101, 114, 101, 10]⟩ : ByteArray), (⟨#[13, 10, 32]⟩ : ByteArray)] : List ByteArray)) (inner := [.string (⟨#[32]⟩ : ByteArray), .string (⟨#[9, 10]⟩ : ByteArray), .string (⟨#[32, 35, 32, 110, 111, 32, 116, 111, 107, 101, 110, 32, 39, 32, 104, 101, 114, 101, 10]⟩ : ByteArray), .string (⟨#[13, 10, 32]⟩ : ByteArray)]) (ok := fun _ => True) (okp := fun _ => True) ?hr ?hp (fun _ hk => hk) trivial (Below.refl _ _) (Nat.le_refl _) (by simp) ?_; (case hd => rfl); (case hg => rfl); (case hr => first | (go_simp; done) | (go_simp; rfl)); (case hp => exact (Reps.one (show Kd.M Kd.string _ _ _ (⟨#[32]⟩ : ByteArray) [.string (⟨#[32]⟩ : ByteArray)] from rfl) (Reps.one (show Kd.M Kd.string _ _ _ (⟨#[9, 10]⟩ : ByteArray) [.string (⟨#[9, 10]⟩ : ByteArray)] from rfl) (Reps.one (show Kd.M Kd.string _ _ _ (⟨#[32, 35, 32, 110, 111, 32, 116, 111, 107, 101, 110, 32, 39, 32, 104, 101, 114, 101, 10]⟩ : ByteArray) [.string (⟨#[32, 35, 32, 110, 111, 32, 116, 111, 107, 101, 110, 32, 39, 32, 104, 101, 114, 101, 10]⟩ : ByteArray)] from rfl) (Reps.one (show Kd.M Kd.string _ _ _ (⟨#[13, 10, 32]⟩ : ByteArray) [.string (⟨#[13, 10, 32]⟩ : ByteArray)] from rfl) (Reps.none _ _)))))); intro v325 w30 ho31 hb hg_ hnew_; clear hg_ hnew_; (first | rw [← Ny324.out] at ho31 | (simp only [Int.reduceToNat] at ho31; rw [← Ny324.out] at ho31)); have n0_ := Aside0.mk (Kd.R_below (by (with_reducible repeat (first | apply Kd.R_alloc | apply Kd.R_drewN | apply Kd.R_drew)); exact HO_5.out) hb); have n1_ := Aside0.mk (Kd.R_lower ho31 (below_size (by repeat (first | (with_reducible first | exact HB.out | apply below_alloc | apply pw_below_drewN | apply below_drew1 | refine below_set ?_ GE322.out) | exact HB.out)))); have n2_ := Aside0.mk (blk_below (g := gb322) (o := .cells #[.int .i64 t319, .int .i64 t320, .int .i64 t321] 27 (0, 0)) (by (with_reducible repeat (first | refine blk_drewN ?_ _ | refine blk_drew ?_ | refine blk_alloc ?_ _)); exact BK322.out) hb); have n3_ := Aside0.mk (below_step (by repeat (first | (with_reducible first | exact HB.out | apply below_alloc | apply pw_below_drewN | apply below_drew1 | refine below_set ?_ GE322.out) | exact HB.out)) hb); clear HO_5; clear BK322; clear HB; have HO_5 := n0_; have HO326 := n1_; have BK322 := n2_; have HB := n3_; clear n0_ n1_ n2_ n3_; clear hb ho31; obtain ⟨Ao32, co32, eo32⟩ := Kd.R_slice HO326.out; subst eo32; have p327 : 0 ≤ ((Go.bits .and .i64 (rd l1 x8_1) 3) : Int) := of_decide_eq_true (by first | (with_reducible assumption) | assumption); have q327 : (Go.bits .and .i64 (rd l1 x8_1) 3) < (y324.length : Int) := of_decide_eq_true (by first | (with_reducible assumption) | assumption); obtain ⟨ad327, e327, hx327_0⟩ := Kd.at_string (Kd.R_reads' HO326.out).2.2 (Go.bits .and .i64 (rd l1 x8_1) 3) p327 q327; cases e327; replace p327 := eq_true p327; replace q327 := eq_true q327; have p328 : 0 ≤ (x8_1 : Int) := of_decide_eq_true (by first | (with_reducible assumption) | assumption); have q328 : x8_1 < (t316.length : Int) := of_decide_eq_true (by first | (with_reducible assumption) | assumption); obtain ⟨ad328, e328, hx328_0, hx328_1, hx328_2, hx328_3⟩ := at_T31 (Kd.R_reads' HO_5.out).2.2 x8_1 p328 q328; cases e328; replace p328 := eq_true p328; replace q328 := eq_true q328; have p331 : 0 ≤ (x8_1 : Int) := of_decide_eq_true (by first | (with_reducible assumption) | assumption); have q331 : x8_1 < (t316.length : Int) := of_decide_eq_true (by first | (with_reducible assumption) | assumption); obtain ⟨ad331, e331, hx331_0, hx331_1, hx331_2, hx331_3⟩ := at_T31 (Kd.R_reads' HO_5.out).2.2 x8_1 p331 q331; obtain rfl : ad328 = ad331 := (by injection e331); replace p331 := eq_true p331; replace q331 := eq_true q331))
                              repeat (go_quiet (first | ((with_reducible refine gate_dst (N := 43) rfl ?_); (try (refine gate_guard (by rfl) ?_; dsimp only)); refine Kd.R_lit Kd.string _ 9 ?hg (N := 43) ?hd (xs := ([(⟨#[32]⟩ : ByteArray), (⟨#[9, 10]⟩ : ByteArray), (⟨#[32, 35, 32, 110, 111, 32, 116, 111, 107, 101, 110, 32, 39, 32, 104, 101, 114, 101, 10]⟩ : ByteArray), (⟨#[13, 10, 32]⟩ : ByteArray)] : List ByteArray)) (inner := [.string (⟨#[32]⟩ : ByteArray), .string (⟨#[9, 10]⟩ : ByteArray), .string (⟨#[32, 35, 32, 110, 111, 32, 116, 111, 107, 101, 110, 32, 39, 32, 104, 101, 114, 101, 10]⟩ : ByteArray), .string (⟨#[13, 10, 32]⟩ : ByteArray)]) (ok := fun _ => True) (okp := fun _ => True) ?hr ?hp (fun _ hk => hk) trivial (Below.refl _ _) (Nat.le_refl _) (by simp) ?_; (case hd => rfl); (case hg => rfl); (case hr => first | (go_simp; done) | (go_simp; rfl)); (case hp => exact (Reps.one (show Kd.M Kd.string _ _ _ (⟨#[32]⟩ : ByteArray) [.string (⟨#[32]⟩ : ByteArray)] from rfl) (Reps.one (show Kd.M Kd.string _ _ _ (⟨#[9, 10]⟩ : ByteArray) [.string (⟨#[9, 10]⟩ : ByteArray)] from rfl) (Reps.one (show Kd.M Kd.string _ _ _ (⟨#[32, 35, 32, 110, 111, 32, 116, 111, 107, 101, 110, 32, 39, 32, 104, 101, 114, 101, 10]⟩ : ByteArray) [.string (⟨#[32, 35, 32, 110, 111, 32, 116, 111, 107, 101, 110, 32, 39, 32, 104, 101, 114, 101, 10]⟩ : ByteArray)] from rfl) (Reps.one (show Kd.M Kd.string _ _ _ (⟨#[13, 10, 32]⟩ : ByteArray) [.string (⟨#[13, 10, 32]⟩ : ByteArray)] from rfl) (Reps.none _ _)))))); intro v325 w30 ho31 hb hg_ hnew_; clear hg_ hnew_; (first | rw [← Ny324.out] at ho31 | (simp only [Int.reduceToNat] at ho31; rw [← Ny324.out] at ho31)); have n0_ := Aside0.mk (Kd.R_below (by (with_reducible repeat (first | apply Kd.R_alloc | apply Kd.R_drewN | apply Kd.R_drew)); exact HO_5.out) hb); have n1_ := Aside0.mk (Kd.R_lower ho31 (below_size (by repeat (first | (with_reducible first | exact HB.out | apply below_alloc | apply pw_below_drewN | apply below_drew1 | refine below_set ?_ GE322.out) | exact HB.out)))); have n2_ := Aside0.mk (blk_below (g := gb322) (o := .cells #[.int .i64 t319, .int .i64 t320, .int .i64 t321] 27 (0, 0)) (by (with_reducible repeat (first | refine blk_drewN ?_ _ | refine blk_drew ?_ | refine blk_alloc ?_ _)); exact BK322.out) hb); have n3_ := Aside0.mk (below_step (by repeat (first | (with_reducible first | exact HB.out | apply below_alloc | apply pw_below_drewN | apply below_drew1 | refine below_set ?_ GE322.out) | exact HB.out)) hb); clear HO_5; clear BK322; clear HB; have HO_5 := n0_; have HO326 := n1_; have BK322 := n2_; have HB := n3_; clear n0_ n1_ n2_ n3_; clear hb ho31; obtain ⟨Ao32, co32, eo32⟩ := Kd.R_slice HO326.out; subst eo32; have p327 : 0 ≤ ((Go.bits .and .i64 (rd l1 x8_1) 3) : Int) := of_decide_eq_true (by first | (with_reducible assumption) | assumption); have q327 : (Go.bits .and .i64 (rd l1 x8_1) 3) < (y324.length : Int) := of_decide_eq_true (by first | (with_reducible assumption) | assumption); obtain ⟨ad327, e327, hx327_0⟩ := Kd.at_string (Kd.R_reads' HO326.out).2.2 (Go.bits .and .i64 (rd l1 x8_1) 3) p327 q327; cases e327; replace p327 := eq_true p327; replace q327 := eq_true q327; have p328 : 0 ≤ (x8_1 : Int) := of_decide_eq_true (by first | (with_reducible assumption) | assumption); have q328 : x8_1 < (t316.length : Int) := of_decide_eq_true (by first | (with_reducible assumption) | assumption); obtain ⟨ad328, e328, hx328_0, hx328_1, hx328_2, hx328_3⟩ := at_T31 (Kd.R_reads' HO_5.out).2.2 x8_1 p328 q328; cases e328; replace p328 := eq_true p328; replace q328 := eq_true q328; have p331 : 0 ≤ (x8_1 : Int) := of_decide_eq_true (by first | (with_reducible assumption) | assumption); have q331 : x8_1 < (t316.length : Int) := of_decide_eq_true (by first | (with_reducible assumption) | assumption); obtain ⟨ad331, e331, hx331_0, hx331_1, hx331_2, hx331_3⟩ := at_T31 (Kd.R_reads' HO_5.out).2.2 x8_1 p331 q331; obtain rfl : ad328 = ad331 := (by injection e331); replace p331 := eq_true p331; replace q331 := eq_true q331)); try go_wp2_with (first | ((with_reducible refine gate_dst (N := 43) rfl ?_); (try (refine gate_guard (by rfl) ?_; dsimp only)); refine Kd.R_lit Kd.string _ 9 ?hg (N := 43) ?hd (xs := ([(⟨#[32]⟩ : ByteArray), (⟨#[9, 10]⟩ : ByteArray), (⟨#[32, 35, 32, 110, 111, 32, 116, 111, 107, 101, 110, 32, 39, 32, 104, 101, 114, 101, 10]⟩ : ByteArray), (⟨#[13, 10, 32]⟩ : ByteArray)] : List ByteArray)) (inner := [.string (⟨#[32]⟩ : ByteArray), .string (⟨#[9, 10]⟩ : ByteArray), .string (⟨#[32, 35, 32, 110, 111, 32, 116, 111, 107, 101, 110, 32, 39, 32, 104, 101, 114, 101, 10]⟩ : ByteArray), .string (⟨#[13, 10, 32]⟩ : ByteArray)]) (ok := fun _ => True) (okp := fun _ => True) ?hr ?hp (fun _ hk => hk) trivial (Below.refl _ _) (Nat.le_refl _) (by simp) ?_; (case hd => rfl); (case hg => rfl); (case hr => first | (go_simp; done) | (go_simp; rfl)); (case hp => exact (Reps.one (show Kd.M Kd.string _ _ _ (⟨#[32]⟩ : ByteArray) [.string (⟨#[32]⟩ : ByteArray)] from rfl) (Reps.one (show Kd.M Kd.string _ _ _ (⟨#[9, 10]⟩ : ByteArray) [.string (⟨#[9, 10]⟩ : ByteArray)] from rfl) (Reps.one (show Kd.M Kd.string _ _ _ (⟨#[32, 35, 32, 110, 111, 32, 116, 111, 107, 101, 110, 32, 39, 32, 104, 101, 114, 101, 10]⟩ : ByteArray) [.string (⟨#[32, 35, 32, 110, 111, 32, 116, 111, 107, 101, 110, 32, 39, 32, 104, 101, 114, 101, 10]⟩ : ByteArray)] from rfl) (Reps.one (show Kd.M Kd.string _ _ _ (⟨#[13, 10, 32]⟩ : ByteArray) [.string (⟨#[13, 10, 32]⟩ : ByteArray)] from rfl) (Reps.none _ _)))))); intro v325 w30 ho31 hb hg_ hnew_; clear hg_ hnew_; (first | rw [← Ny324.out] at ho31 | (simp only [Int.reduceToNat] at ho31; rw [← Ny324.out] at ho31)); have n0_ := Aside0.mk (Kd.R_below (by (with_reducible repeat (first | apply Kd.R_alloc | apply Kd.R_drewN | apply Kd.R_drew)); exact HO_5.out) hb); have n1_ := Aside0.mk (Kd.R_lower ho31 (below_size (by repeat (first | (with_reducible first | exact HB.out | apply below_alloc | apply pw_below_drewN | apply below_drew1 | refine below_set ?_ GE322.out) | exact HB.out)))); have n2_ := Aside0.mk (blk_below (g := gb322) (o := .cells #[.int .i64 t319, .int .i64 t320, .int .i64 t321] 27 (0, 0)) (by (with_reducible repeat (first | refine blk_drewN ?_ _ | refine blk_drew ?_ | refine blk_alloc ?_ _)); exact BK322.out) hb); have n3_ := Aside0.mk (below_step (by repeat (first | (with_reducible first | exact HB.out | apply below_alloc | apply pw_below_drewN | apply below_drew1 | refine below_set ?_ GE322.out) | exact HB.out)) hb); clear HO_5; clear BK322; clear HB; have HO_5 := n0_; have HO326 := n1_; have BK322 := n2_; have HB := n3_; clear n0_ n1_ n2_ n3_; clear hb ho31; obtain ⟨Ao32, co32, eo32⟩ := Kd.R_slice HO326.out; subst eo32; have p327 : 0 ≤ ((Go.bits .and .i64 (rd l1 x8_1) 3) : Int) := of_decide_eq_true (by first | (with_reducible assumption) | assumption); have q327 : (Go.bits .and .i64 (rd l1 x8_1) 3) < (y324.length : Int) := of_decide_eq_true (by first | (with_reducible assumption) | assumption); obtain ⟨ad327, e327, hx327_0⟩ := Kd.at_string (Kd.R_reads' HO326.out).2.2 (Go.bits .and .i64 (rd l1 x8_1) 3) p327 q327; cases e327; replace p327 := eq_true p327; replace q327 := eq_true q327; have p328 : 0 ≤ (x8_1 : Int) := of_decide_eq_true (by first | (with_reducible assumption) | assumption); have q328 : x8_1 < (t316.length : Int) := of_decide_eq_true (by first | (with_reducible assumption) | assumption); obtain ⟨ad328, e328, hx328_0, hx328_1, hx328_2, hx328_3⟩ := at_T31 (Kd.R_reads' HO_5.out).2.2 x8_1 p328 q328; cases e328; replace p328 := eq_true p328; replace q328 := eq_true q328; have p331 : 0 ≤ (x8_1 : Int) := of_decide_eq_true (by first | (with_reducible assumption) | assumption); have q331 : x8_1 < (t316.length : Int) := of_decide_eq_true (by first | (with_reducible assumption) | assumption); obtain ⟨ad331, e331, hx331_0, hx331_1, hx331_2, hx331_3⟩ := at_T31 (Kd.R_reads' HO_5.out).2.2 x8_1 p331 q331; obtain rfl : ad328 = ad331 := (by injection e331); replace p331 := eq_true p331; replace q331 := eq_true q331)))
                              go_roundg k1
                              case measure => have := HK1.out; omega
                              case rel => exact ⟨((x7_1 ++ (rdOf ByteArray.empty y324 (Go.bits .and .i64 (rd l1 x8_1) 3))) ++ ((rd_T31 t316 x8_1).f1)), (wrap64 (x8_1 + 1)), (by first | rfl | (simp; done) | (simp [*]; done)), (by first | rfl | (simp; done) | (simp [*]; done)), H', ⟨by have := HK1.out; omega⟩, ⟨by (with_reducible repeat (first | apply Kd.R_alloc | apply Kd.R_drewN | apply Kd.R_drew)); exact HO_5.out⟩, ⟨by (with_reducible repeat (first | refine blk_drewN ?_ _ | refine blk_drew ?_ | refine blk_alloc ?_ _)); exact BK322.out⟩, ⟨by repeat (first | (with_reducible first | exact HB.out | apply below_alloc | apply pw_below_drewN | apply below_drew1 | refine below_set ?_ GE322.out) | exact HB.out)⟩⟩
                            · rw [if_neg c28] at H
                              exact absurd H (by simp)
                        · rw [if_neg c19] at H
                          exact absurd H (by simp)
                      · rw [if_neg c18] at H
                        exact absurd H (by simp)
                    · rw [if_neg c17] at H
                      exact absurd H (by simp)
                  · rw [if_neg c16] at H
                    exact absurd H (by simp)
                · rw [if_neg c15] at H
                  exact absurd H (by simp)
              · rw [if_neg c14] at H
                have c14b0 : decide (x8_1 < (l1.length : Int)) = false := decide_eq_false c14
                clear c14
                obtain ⟨y332, hy332⟩ : ∃ y_ : List ByteArray, y_ = (([(⟨#[32]⟩ : ByteArray), (⟨#[9, 10]⟩ : ByteArray), (⟨#[32, 35, 32, 110, 111, 32, 116, 111, 107, 101, 110, 32, 39, 32, 104, 101, 114, 101, 10]⟩ : ByteArray), (⟨#[13, 10, 32]⟩ : ByteArray)] : List ByteArray)) := ⟨_, rfl⟩
                replace H : (if 0 < (y332.length : Int) then (if x7_1.size + (rdOf ByteArray.empty y332 0).size ≤ 9223372036854775807 then (if 0 ≤ x8_1 then (if x8_1 < (t316.length : Int) then (if ((rd_T31 t316 x8_1).f0) = 2 then ((lex_Quote.f k1 ((rd_T31 t316 x8_1).f1)).bind fun t338 => (if (x7_1 ++ (rdOf ByteArray.empty y332 0)).size + t338.size ≤ 9223372036854775807 then (primerlaw04_LexBlank.l0 k1 l1 t316 ((x7_1 ++ (rdOf ByteArray.empty y332 0)) ++ t338) (wrap64 (x8_1 + 1))) else (none))) else (if (x7_1 ++ (rdOf ByteArray.empty y332 0)).size + ((rd_T31 t316 x8_1).f1).size ≤ 9223372036854775807 then (primerlaw04_LexBlank.l0 k1 l1 t316 ((x7_1 ++ (rdOf ByteArray.empty y332 0)) ++ ((rd_T31 t316 x8_1).f1)) (wrap64 (x8_1 + 1))) else (none))) else (none)) else (none)) else (none)) else (none)) = some r := by first | (rw [hy332]; with_reducible exact H) | (have H2_ := (Option.bind_some _ _).symm.trans H; rw [hy332]; with_reducible exact H2_) | (have H2_ := (Option.bind_some _ _).symm.trans H; with_reducible exact H2_) | with_reducible exact H | (rw [hy332]; exact H) | exact H
                have Ny332 := Aside0.mk hy332
                clear hy332
                by_cases c33 : 0 < (y332.length : Int)
                · rw [if_pos c33] at H
                  have c33b0 : decide (0 < (y332.length : Int)) = true := decide_eq_true c33
                  have c33b1 : decide (0 < y332.length) = true := decide_eq_true (by omega)
                  clear c33
                  by_cases c34 : x7_1.size + (rdOf ByteArray.empty y332 0).size ≤ 9223372036854775807
                  · rw [if_pos c34] at H
                    have c34b0 := eq_true c34
                    have c34b1 : decide (x7_1.size + (rdOf ByteArray.empty y332 0).size ≤ 9223372036854775807) = true := decide_eq_true c34
                    try have c34b2 : (9223372036854775807 < x7_1.size + (rdOf ByteArray.empty y332 0).size) = False := eq_false (Nat.not_lt.2 c34)
                    by_cases c35 : 0 ≤ x8_1
                    · rw [if_pos c35] at H
                      have c35b0 : decide (0 ≤ x8_1) = true := decide_eq_true c35
                      clear c35
                      by_cases c36 : x8_1 < (t316.length : Int)
                      · rw [if_pos c36] at H
                        have c36b0 : decide (x8_1 < (t316.length : Int)) = true := decide_eq_true c36
                        clear c36
                        by_cases c37 : ((rd_T31 t316 x8_1).f0) = 2
                        · rw [if_pos c37] at H
                          have c37b0 : (((rd_T31 t316 x8_1).f0) == 2) = true := beq_iff_eq.mpr c37
                          have c37b1 : (((rd_T31 t316 x8_1).f0) != 2) = false := bne_eq_false_iff_eq.mpr c37
                          clear c37
                          replace H := Option.bind_eq_some_iff.mp H
                          obtain ⟨t338, A380, H⟩ := H
                          replace H : (if (x7_1 ++ (rdOf ByteArray.empty y332 0)).size + t338.size ≤ 9223372036854775807 then (primerlaw04_LexBlank.l0 k1 l1 t316 ((x7_1 ++ (rdOf ByteArray.empty y332 0)) ++ t338) (wrap64 (x8_1 + 1))) else (none)) = some r := H
                          have A38 := Aside0.mk A380
                          clear A380
                          by_cases c39 : (x7_1 ++ (rdOf ByteArray.empty y332 0)).size + t338.size ≤ 9223372036854775807
                          · rw [if_pos c39] at H
                            have c39b0 := eq_true c39
                            have c39b1 : decide ((x7_1 ++ (rdOf ByteArray.empty y332 0)).size + t338.size ≤ 9223372036854775807) = true := decide_eq_true c39
                            try have c39b2 : (9223372036854775807 < (x7_1 ++ (rdOf ByteArray.empty y332 0)).size + t338.size) = False := eq_false (Nat.not_lt.2 c39)
                            have H' := Aside0.mk H
                            clear H
                            obtain ⟨Ao40, co40, eo40⟩ := Kd.R_slice HO_5.out
                            subst eo40
                            go_wp2_with (first | ((with_reducible refine gate_dst (N := 43) rfl ?_); (try (refine gate_guard (by rfl) ?_; dsimp only)); refine Kd.R_lit Kd.string _ 9 ?hg (N := 43) ?hd (xs := ([(⟨#[32]⟩ : ByteArray), (⟨#[9, 10]⟩ : ByteArray), (⟨#[32, 35, 32, 110, 111, 32, 116, 111, 107, 101, 110, 32, 39, 32, 104, 101, 114, 101, 10]⟩ : ByteArray), (⟨#[13, 10, 32]⟩ : ByteArray)] : List ByteArray)) (inner := [.string (⟨#[32]⟩ : ByteArray), .string (⟨#[9, 10]⟩ : ByteArray), .string (⟨#[32, 35, 32, 110, 111, 32, 116, 111, 107, 101, 110, 32, 39, 32, 104, 101, 114, 101, 10]⟩ : ByteArray), .string (⟨#[13, 10, 32]⟩ : ByteArray)]) (ok := fun _ => True) (okp := fun _ => True) ?hr ?hp (fun _ hk => hk) trivial (Below.refl _ _) (Nat.le_refl _) (by simp) ?_; (case hd => rfl); (case hg => rfl); (case hr => first | (go_simp; done) | (go_simp; rfl)); (case hp => exact (Reps.one (show Kd.M Kd.string _ _ _ (⟨#[32]⟩ : ByteArray) [.string (⟨#[32]⟩ : ByteArray)] from rfl) (Reps.one (show Kd.M Kd.string _ _ _ (⟨#[9, 10]⟩ : ByteArray) [.string (⟨#[9, 10]⟩ : ByteArray)] from rfl) (Reps.one (show Kd.M Kd.string _ _ _ (⟨#[32, 35, 32, 110, 111, 32, 116, 111, 107, 101, 110, 32, 39, 32, 104, 101, 114, 101, 10]⟩ : ByteArray) [.string (⟨#[32, 35, 32, 110, 111, 32, 116, 111, 107, 101, 110, 32, 39, 32, 104, 101, 114, 101, 10]⟩ : ByteArray)] from rfl) (Reps.one (show Kd.M Kd.string _ _ _ (⟨#[13, 10, 32]⟩ : ByteArray) [.string (⟨#[13, 10, 32]⟩ : ByteArray)] from rfl) (Reps.none _ _)))))); intro v333 w41 ho42 hb hg_ hnew_; clear hg_ hnew_; (first | rw [← Ny332.out] at ho42 | (simp only [Int.reduceToNat] at ho42; rw [← Ny332.out] at ho42)); have n0_ := Aside0.mk (Kd.R_below (by (with_reducible repeat (first | apply Kd.R_alloc | apply Kd.R_drewN | apply Kd.R_drew)); exact HO_5.out) hb); have n1_ := Aside0.mk (Kd.R_lower ho42 (below_size (by repeat (first | (with_reducible first | exact HB.out | apply below_alloc | apply pw_below_drewN | apply below_drew1 | refine below_set ?_ GE322.out) | exact HB.out)))); have n2_ := Aside0.mk (blk_below (g := gb322) (o := .cells #[.int .i64 t319, .int .i64 t320, .int .i64 t321] 27 (0, 0)) (by (with_reducible repeat (first | refine blk_drewN ?_ _ | refine blk_drew ?_ | refine blk_alloc ?_ _)); exact BK322.out) hb); have n3_ := Aside0.mk (below_step (by repeat (first | (with_reducible first | exact HB.out | apply below_alloc | apply pw_below_drewN | apply below_drew1 | refine below_set ?_ GE322.out) | exact HB.out)) hb); clear HO_5; clear BK322; clear HB; have HO_5 := n0_; have HO334 := n1_; have BK322 := n2_; have HB := n3_; clear n0_ n1_ n2_ n3_; clear hb ho42; obtain ⟨Ao43, co43, eo43⟩ := Kd.R_slice HO334.out; subst eo43; have p335 : 0 ≤ (0 : Int) := (by omega); have q335 : 0 < (y332.length : Int) := of_decide_eq_true (by first | (with_reducible assumption) | assumption); obtain ⟨ad335, e335, hx335_0⟩ := Kd.at_string (Kd.R_reads' HO334.out).2.2 0 p335 q335; cases e335; have qi335 : (0 < y332.length) = True := eq_true (by omega); (try rw [show ((0 : Int)).toNat = 0 from rfl] at hx335_0); (try rw [Addr.add_zero'] at hx335_0); replace p335 := eq_true p335; replace q335 := eq_true q335; have p336 : 0 ≤ (x8_1 : Int) := of_decide_eq_true (by first | (with_reducible assumption) | assumption); have q336 : x8_1 < (t316.length : Int) := of_decide_eq_true (by first | (with_reducible assumption) | assumption); obtain ⟨ad336, e336, hx336_0, hx336_1, hx336_2, hx336_3⟩ := at_T31 (Kd.R_reads' HO_5.out).2.2 x8_1 p336 q336; cases e336; replace p336 := eq_true p336; replace q336 := eq_true q336; have p337 : 0 ≤ (x8_1 : Int) := of_decide_eq_true (by first | (with_reducible assumption) | assumption); have q337 : x8_1 < (t316.length : Int) := of_decide_eq_true (by first | (with_reducible assumption) | assumption); obtain ⟨ad337, e337, hx337_0, hx337_1, hx337_2, hx337_3⟩ := at_T31 (Kd.R_reads' HO_5.out).2.2 x8_1 p337 q337; obtain rfl : ad336 = ad337 := (by injection e337); replace p337 := eq_true p337; replace q337 := eq_true q337) | (go_at_call 14; (with_reducible refine (lex_Quote.calls k1 ((rd_T31 t316 x8_1).f1) t338 _ A38.out).mono ?_); rintro e w44 ⟨rfl, hb⟩; have n0_ := Aside0.mk (Kd.R_below (by (with_reducible repeat (first | apply Kd.R_alloc | apply Kd.R_drewN | apply Kd.R_drew)); exact HO_5.out) hb); have n1_ := Aside0.mk (Kd.R_below (by (with_reducible repeat (first | apply Kd.R_alloc | apply Kd.R_drewN | apply Kd.R_drew)); exact HO334.out) hb); have n2_ := Aside0.mk (blk_below (g := gb322) (o := .cells #[.int .i64 t319, .int .i64 t320, .int .i64 t321] 27 (0, 0)) (by (with_reducible repeat (first | refine blk_drewN ?_ _ | refine blk_drew ?_ | refine blk_alloc ?_ _)); exact BK322.out) hb); have n3_ := Aside0.mk (below_step (by repeat (first | (with_reducible first | exact HB.out | apply below_alloc | apply pw_below_drewN | apply below_drew1 | refine below_set ?_ GE322.out) | exact HB.out)) hb); clear HO_5; clear HO334; clear BK322; clear HB; have HO_5 := n0_; have HO334 := n1_; have BK322 := n2_; have HB := n3_; clear n0_ n1_ n2_ n3_; (try clear hb); (try clear hb2); (try clear hk); (try clear hi)))
                            repeat (go_quiet (first | ((with_reducible refine gate_dst (N := 43) rfl ?_); (try (refine gate_guard (by rfl) ?_; dsimp only)); refine Kd.R_lit Kd.string _ 9 ?hg (N := 43) ?hd (xs := ([(⟨#[32]⟩ : ByteArray), (⟨#[9, 10]⟩ : ByteArray), (⟨#[32, 35, 32, 110, 111, 32, 116, 111, 107, 101, 110, 32, 39, 32, 104, 101, 114, 101, 10]⟩ : ByteArray), (⟨#[13, 10, 32]⟩ : ByteArray)] : List ByteArray)) (inner := [.string (⟨#[32]⟩ : ByteArray), .string (⟨#[9, 10]⟩ : ByteArray), .string (⟨#[32, 35, 32, 110, 111, 32, 116, 111, 107, 101, 110, 32, 39, 32, 104, 101, 114, 101, 10]⟩ : ByteArray), .string (⟨#[13, 10, 32]⟩ : ByteArray)]) (ok := fun _ => True) (okp := fun _ => True) ?hr ?hp (fun _ hk => hk) trivial (Below.refl _ _) (Nat.le_refl _) (by simp) ?_; (case hd => rfl); (case hg => rfl); (case hr => first | (go_simp; done) | (go_simp; rfl)); (case hp => exact (Reps.one (show Kd.M Kd.string _ _ _ (⟨#[32]⟩ : ByteArray) [.string (⟨#[32]⟩ : ByteArray)] from rfl) (Reps.one (show Kd.M Kd.string _ _ _ (⟨#[9, 10]⟩ : ByteArray) [.string (⟨#[9, 10]⟩ : ByteArray)] from rfl) (Reps.one (show Kd.M Kd.string _ _ _ (⟨#[32, 35, 32, 110, 111, 32, 116, 111, 107, 101, 110, 32, 39, 32, 104, 101, 114, 101, 10]⟩ : ByteArray) [.string (⟨#[32, 35, 32, 110, 111, 32, 116, 111, 107, 101, 110, 32, 39, 32, 104, 101, 114, 101, 10]⟩ : ByteArray)] from rfl) (Reps.one (show Kd.M Kd.string _ _ _ (⟨#[13, 10, 32]⟩ : ByteArray) [.string (⟨#[13, 10, 32]⟩ : ByteArray)] from rfl) (Reps.none _ _)))))); intro v333 w41 ho42 hb hg_ hnew_; clear hg_ hnew_; (first | rw [← Ny332.out] at ho42 | (simp only [Int.reduceToNat] at ho42; rw [← Ny332.out] at ho42)); have n0_ := Aside0.mk (Kd.R_below (by (with_reducible repeat (first | apply Kd.R_alloc | apply Kd.R_drewN | apply Kd.R_drew)); exact HO_5.out) hb); have n1_ := Aside0.mk (Kd.R_lower ho42 (below_size (by repeat (first | (with_reducible first | exact HB.out | apply below_alloc | apply pw_below_drewN | apply below_drew1 | refine below_set ?_ GE322.out) | exact HB.out)))); have n2_ := Aside0.mk (blk_below (g := gb322) (o := .cells #[.int .i64 t319, .int .i64 t320, .int .i64 t321] 27 (0, 0)) (by (with_reducible repeat (first | refine blk_drewN ?_ _ | refine blk_drew ?_ | refine blk_alloc ?_ _)); exact BK322.out) hb); have n3_ := Aside0.mk (below_step (by repeat (first | (with_reducible first | exact HB.out | apply below_alloc | apply pw_below_drewN | apply below_drew1 | refine below_set ?_ GE322.out) | exact HB.out)) hb); clear HO_5; clear BK322; clear HB; have HO_5 := n0_; have HO334 := n1_; have BK322 := n2_; have HB := n3_; clear n0_ n1_ n2_ n3_; clear hb ho42; obtain ⟨Ao43, co43, eo43⟩ := Kd.R_slice HO334.out; subst eo43; have p335 : 0 ≤ (0 : Int) := (by omega); have q335 : 0 < (y332.length : Int) := of_decide_eq_true (by first | (with_reducible assumption) | assumption); obtain ⟨ad335, e335, hx335_0⟩ := Kd.at_string (Kd.R_reads' HO334.out).2.2 0 p335 q335; cases e335; have qi335 : (0 < y332.length) = True := eq_true (by omega); (try rw [show ((0 : Int)).toNat = 0 from rfl] at hx335_0); (try rw [Addr.add_zero'] at hx335_0); replace p335 := eq_true p335; replace q335 := eq_true q335; have p336 : 0 ≤ (x8_1 : Int) := of_decide_eq_true (by first | (with_reducible assumption) | assumption); have q336 : x8_1 < (t316.length : Int) := of_decide_eq_true (by first | (with_reducible assumption) | assumption); obtain ⟨ad336, e336, hx336_0, hx336_1, hx336_2, hx336_3⟩ := at_T31 (Kd.R_reads' HO_5.out).2.2 x8_1 p336 q336; cases e336; replace p336 := eq_true p336; replace q336 := eq_true q336; have p337 : 0 ≤ (x8_1 : Int) := of_decide_eq_true (by first | (with_reducible assumption) | assumption); have q337 : x8_1 < (t316.length : Int) := of_decide_eq_true (by first | (with_reducible assumption) | assumption); obtain ⟨ad337, e337, hx337_0, hx337_1, hx337_2, hx337_3⟩ := at_T31 (Kd.R_reads' HO_5.out).2.2 x8_1 p337 q337; obtain rfl : ad336 = ad337 := (by injection e337); replace p337 := eq_true p337; replace q337 := eq_true q337) | (go_at_call 14; (with_reducible refine (lex_Quote.calls k1 ((rd_T31 t316 x8_1).f1) t338 _ A38.out).mono ?_); rintro e w44 ⟨rfl, hb⟩; have n0_ := Aside0.mk (Kd.R_below (by (with_reducible repeat (first | apply Kd.R_alloc | apply Kd.R_drewN | apply Kd.R_drew)); exact HO_5.out) hb); have n1_ := Aside0.mk (Kd.R_below (by (with_reducible repeat (first | apply Kd.R_alloc | apply Kd.R_drewN | apply Kd.R_drew)); exact HO334.out) hb); have n2_ := Aside0.mk (blk_below (g := gb322) (o := .cells #[.int .i64 t319, .int .i64 t320, .int .i64 t321] 27 (0, 0)) (by (with_reducible repeat (first | refine blk_drewN ?_ _ | refine blk_drew ?_ | refine blk_alloc ?_ _)); exact BK322.out) hb); have n3_ := Aside0.mk (below_step (by repeat (first | (with_reducible first | exact HB.out | apply below_alloc | apply pw_below_drewN | apply below_drew1 | refine below_set ?_ GE322.out) | exact HB.out)) hb); clear HO_5; clear HO334; clear BK322; clear HB; have HO_5 := n0_; have HO334 := n1_; have BK322 := n2_; have HB := n3_; clear n0_ n1_ n2_ n3_; (try clear hb); (try clear hb2); (try clear hk); (try clear hi))); try go_wp2_with (first | ((with_reducible refine gate_dst (N := 43) rfl ?_); (try (refine gate_guard (by rfl) ?_; dsimp only)); refine Kd.R_lit Kd.string _ 9 ?hg (N := 43) ?hd (xs := ([(⟨#[32]⟩ : ByteArray), (⟨#[9, 10]⟩ : ByteArray), (⟨#[32, 35, 32, 110, 111, 32, 116, 111, 107, 101, 110, 32, 39, 32, 104, 101, 114, 101, 10]⟩ : ByteArray), (⟨#[13, 10, 32]⟩ : ByteArray)] : List ByteArray)) (inner := [.string (⟨#[32]⟩ : ByteArray), .string (⟨#[9, 10]⟩ : ByteArray), .string (⟨#[32, 35, 32, 110, 111, 32, 116, 111, 107, 101, 110, 32, 39, 32, 104, 101, 114, 101, 10]⟩ : ByteArray), .string (⟨#[13, 10, 32]⟩ : ByteArray)]) (ok := fun _ => True) (okp := fun _ => True) ?hr ?hp (fun _ hk => hk) trivial (Below.refl _ _) (Nat.le_refl _) (by simp) ?_; (case hd => rfl); (case hg => rfl); (case hr => first | (go_simp; done) | (go_simp; rfl)); (case hp => exact (Reps.one (show Kd.M Kd.string _ _ _ (⟨#[32]⟩ : ByteArray) [.string (⟨#[32]⟩ : ByteArray)] from rfl) (Reps.one (show Kd.M Kd.string _ _ _ (⟨#[9, 10]⟩ : ByteArray) [.string (⟨#[9, 10]⟩ : ByteArray)] from rfl) (Reps.one (show Kd.M Kd.string _ _ _ (⟨#[32, 35, 32, 110, 111, 32, 116, 111, 107, 101, 110, 32, 39, 32, 104, 101, 114, 101, 10]⟩ : ByteArray) [.string (⟨#[32, 35, 32, 110, 111, 32, 116, 111, 107, 101, 110, 32, 39, 32, 104, 101, 114, 101, 10]⟩ : ByteArray)] from rfl) (Reps.one (show Kd.M Kd.string _ _ _ (⟨#[13, 10, 32]⟩ : ByteArray) [.string (⟨#[13, 10, 32]⟩ : ByteArray)] from rfl) (Reps.none _ _)))))); intro v333 w41 ho42 hb hg_ hnew_; clear hg_ hnew_; (first | rw [← Ny332.out] at ho42 | (simp only [Int.reduceToNat] at ho42; rw [← Ny332.out] at ho42)); have n0_ := Aside0.mk (Kd.R_below (by (with_reducible repeat (first | apply Kd.R_alloc | apply Kd.R_drewN | apply Kd.R_drew)); exact HO_5.out) hb); have n1_ := Aside0.mk (Kd.R_lower ho42 (below_size (by repeat (first | (with_reducible first | exact HB.out | apply below_alloc | apply pw_below_drewN | apply below_drew1 | refine below_set ?_ GE322.out) | exact HB.out)))); have n2_ := Aside0.mk (blk_below (g := gb322) (o := .cells #[.int .i64 t319, .int .i64 t320, .int .i64 t321] 27 (0, 0)) (by (with_reducible repeat (first | refine blk_drewN ?_ _ | refine blk_drew ?_ | refine blk_alloc ?_ _)); exact BK322.out) hb); have n3_ := Aside0.mk (below_step (by repeat (first | (with_reducible first | exact HB.out | apply below_alloc | apply pw_below_drewN | apply below_drew1 | refine below_set ?_ GE322.out) | exact HB.out)) hb); clear HO_5; clear BK322; clear HB; have HO_5 := n0_; have HO334 := n1_; have BK322 := n2_; have HB := n3_; clear n0_ n1_ n2_ n3_; clear hb ho42; obtain ⟨Ao43, co43, eo43⟩ := Kd.R_slice HO334.out; subst eo43; have p335 : 0 ≤ (0 : Int) := (by omega); have q335 : 0 < (y332.length : Int) := of_decide_eq_true (by first | (with_reducible assumption) | assumption); obtain ⟨ad335, e335, hx335_0⟩ := Kd.at_string (Kd.R_reads' HO334.out).2.2 0 p335 q335; cases e335; have qi335 : (0 < y332.length) = True := eq_true (by omega); (try rw [show ((0 : Int)).toNat = 0 from rfl] at hx335_0); (try rw [Addr.add_zero'] at hx335_0); replace p335 := eq_true p335; replace q335 := eq_true q335; have p336 : 0 ≤ (x8_1 : Int) := of_decide_eq_true (by first | (with_reducible assumption) | assumption); have q336 : x8_1 < (t316.length : Int) := of_decide_eq_true (by first | (with_reducible assumption) | assumption); obtain ⟨ad336, e336, hx336_0, hx336_1, hx336_2, hx336_3⟩ := at_T31 (Kd.R_reads' HO_5.out).2.2 x8_1 p336 q336; cases e336; replace p336 := eq_true p336; replace q336 := eq_true q336; have p337 : 0 ≤ (x8_1 : Int) := of_decide_eq_true (by first | (with_reducible assumption) | assumption); have q337 : x8_1 < (t316.length : Int) := of_decide_eq_true (by first | (with_reducible assumption) | assumption); obtain ⟨ad337, e337, hx337_0, hx337_1, hx337_2, hx337_3⟩ := at_T31 (Kd.R_reads' HO_5.out).2.2 x8_1 p337 q337; obtain rfl : ad336 = ad337 := (by injection e337); replace p337 := eq_true p337; replace q337 := eq_true q337) | (go_at_call 14; (with_reducible refine (lex_Quote.calls k1 ((rd_T31 t316 x8_1).f1) t338 _ A38.out).mono ?_); rintro e w44 ⟨rfl, hb⟩; have n0_ := Aside0.mk (Kd.R_below (by (with_reducible repeat (first | apply Kd.R_alloc | apply Kd.R_drewN | apply Kd.R_drew)); exact HO_5.out) hb); have n1_ := Aside0.mk (Kd.R_below (by (with_reducible repeat (first | apply Kd.R_alloc | apply Kd.R_drewN | apply Kd.R_drew)); exact HO334.out) hb); have n2_ := Aside0.mk (blk_below (g := gb322) (o := .cells #[.int .i64 t319, .int .i64 t320, .int .i64 t321] 27 (0, 0)) (by (with_reducible repeat (first | refine blk_drewN ?_ _ | refine blk_drew ?_ | refine blk_alloc ?_ _)); exact BK322.out) hb); have n3_ := Aside0.mk (below_step (by repeat (first | (with_reducible first | exact HB.out | apply below_alloc | apply pw_below_drewN | apply below_drew1 | refine below_set ?_ GE322.out) | exact HB.out)) hb); clear HO_5; clear HO334; clear BK322; clear HB; have HO_5 := n0_; have HO334 := n1_; have BK322 := n2_; have HB := n3_; clear n0_ n1_ n2_ n3_; (try clear hb); (try clear hb2); (try clear hk); (try clear hi))))
                            go_roundg k1
                            case measure => have := HK1.out; omega
                            case rel => exact ⟨((x7_1 ++ (rdOf ByteArray.empty y332 0)) ++ t338), (wrap64 (x8_1 + 1)), (by first | rfl | (simp; done) | (simp [*]; done)), (by first | rfl | (simp; done) | (simp [*]; done)), H', ⟨by have := HK1.out; omega⟩, ⟨by (with_reducible repeat (first | apply Kd.R_alloc | apply Kd.R_drewN | apply Kd.R_drew)); exact HO_5.out⟩, ⟨by (with_reducible repeat (first | refine blk_drewN ?_ _ | refine blk_drew ?_ | refine blk_alloc ?_ _)); exact BK322.out⟩, ⟨by repeat (first | (with_reducible first | exact HB.out | apply below_alloc | apply pw_below_drewN | apply below_drew1 | refine below_set ?_ GE322.out) | exact HB.out)⟩⟩
                          · rw [if_neg c39] at H
                            exact absurd H (by simp)
                        · rw [if_neg c37] at H
                          have c37b0 : (((rd_T31 t316 x8_1).f0) == 2) = false := beq_eq_false_iff_ne.mpr c37
                          have c37b1 : (((rd_T31 t316 x8_1).f0) != 2) = true := bne_iff_ne.mpr c37
                          by_cases c45 : (x7_1 ++ (rdOf ByteArray.empty y332 0)).size + ((rd_T31 t316 x8_1).f1).size ≤ 9223372036854775807
                          · rw [if_pos c45] at H
                            have c45b0 := eq_true c45
                            have c45b1 : decide ((x7_1 ++ (rdOf ByteArray.empty y332 0)).size + ((rd_T31 t316 x8_1).f1).size ≤ 9223372036854775807) = true := decide_eq_true c45
                            try have c45b2 : (9223372036854775807 < (x7_1 ++ (rdOf ByteArray.empty y332 0)).size + ((rd_T31 t316 x8_1).f1).size) = False := eq_false (Nat.not_lt.2 c45)
                            have H' := Aside0.mk H
                            clear H
                            obtain ⟨Ao46, co46, eo46⟩ := Kd.R_slice HO_5.out
                            subst eo46
                            go_wp2_with (first | ((with_reducible refine gate_dst (N := 43) rfl ?_); (try (refine gate_guard (by rfl) ?_; dsimp only)); refine Kd.R_lit Kd.string _ 9 ?hg (N := 43) ?hd (xs := ([(⟨#[32]⟩ : ByteArray), (⟨#[9, 10]⟩ : ByteArray), (⟨#[32, 35, 32, 110, 111, 32, 116, 111, 107, 101, 110, 32, 39, 32, 104, 101, 114, 101, 10]⟩ : ByteArray), (⟨#[13, 10, 32]⟩ : ByteArray)] : List ByteArray)) (inner := [.string (⟨#[32]⟩ : ByteArray), .string (⟨#[9, 10]⟩ : ByteArray), .string (⟨#[32, 35, 32, 110, 111, 32, 116, 111, 107, 101, 110, 32, 39, 32, 104, 101, 114, 101, 10]⟩ : ByteArray), .string (⟨#[13, 10, 32]⟩ : ByteArray)]) (ok := fun _ => True) (okp := fun _ => True) ?hr ?hp (fun _ hk => hk) trivial (Below.refl _ _) (Nat.le_refl _) (by simp) ?_; (case hd => rfl); (case hg => rfl); (case hr => first | (go_simp; done) | (go_simp; rfl)); (case hp => exact (Reps.one (show Kd.M Kd.string _ _ _ (⟨#[32]⟩ : ByteArray) [.string (⟨#[32]⟩ : ByteArray)] from rfl) (Reps.one (show Kd.M Kd.string _ _ _ (⟨#[9, 10]⟩ : ByteArray) [.string (⟨#[9, 10]⟩ : ByteArray)] from rfl) (Reps.one (show Kd.M Kd.string _ _ _ (⟨#[32, 35, 32, 110, 111, 32, 116, 111, 107, 101, 110, 32, 39, 32, 104, 101, 114, 101, 10]⟩ : ByteArray) [.string (⟨#[32, 35, 32, 110, 111, 32, 116, 111, 107, 101, 110, 32, 39, 32, 104, 101, 114, 101, 10]⟩ : ByteArray)] from rfl) (Reps.one (show Kd.M Kd.string _ _ _ (⟨#[13, 10, 32]⟩ : ByteArray) [.string (⟨#[13, 10, 32]⟩ : ByteArray)] from rfl) (Reps.none _ _)))))); intro v333 w47 ho48 hb hg_ hnew_; clear hg_ hnew_; (first | rw [← Ny332.out] at ho48 | (simp only [Int.reduceToNat] at ho48; rw [← Ny332.out] at ho48)); have n0_ := Aside0.mk (Kd.R_below (by (with_reducible repeat (first | apply Kd.R_alloc | apply Kd.R_drewN | apply Kd.R_drew)); exact HO_5.out) hb); have n1_ := Aside0.mk (Kd.R_lower ho48 (below_size (by repeat (first | (with_reducible first | exact HB.out | apply below_alloc | apply pw_below_drewN | apply below_drew1 | refine below_set ?_ GE322.out) | exact HB.out)))); have n2_ := Aside0.mk (blk_below (g := gb322) (o := .cells #[.int .i64 t319, .int .i64 t320, .int .i64 t321] 27 (0, 0)) (by (with_reducible repeat (first | refine blk_drewN ?_ _ | refine blk_drew ?_ | refine blk_alloc ?_ _)); exact BK322.out) hb); have n3_ := Aside0.mk (below_step (by repeat (first | (with_reducible first | exact HB.out | apply below_alloc | apply pw_below_drewN | apply below_drew1 | refine below_set ?_ GE322.out) | exact HB.out)) hb); clear HO_5; clear BK322; clear HB; have HO_5 := n0_; have HO334 := n1_; have BK322 := n2_; have HB := n3_; clear n0_ n1_ n2_ n3_; clear hb ho48; obtain ⟨Ao49, co49, eo49⟩ := Kd.R_slice HO334.out; subst eo49; have p335 : 0 ≤ (0 : Int) := (by omega); have q335 : 0 < (y332.length : Int) := of_decide_eq_true (by first | (with_reducible assumption) | assumption); obtain ⟨ad335, e335, hx335_0⟩ := Kd.at_string (Kd.R_reads' HO334.out).2.2 0 p335 q335; cases e335; have qi335 : (0 < y332.length) = True := eq_true (by omega); (try rw [show ((0 : Int)).toNat = 0 from rfl] at hx335_0); (try rw [Addr.add_zero'] at hx335_0); replace p335 := eq_true p335; replace q335 := eq_true q335; have p336 : 0 ≤ (x8_1 : Int) := of_decide_eq_true (by first | (with_reducible assumption) | assumption); have q336 : x8_1 < (t316.length : Int) := of_decide_eq_true (by first | (with_reducible assumption) | assumption); obtain ⟨ad336, e336, hx336_0, hx336_1, hx336_2, hx336_3⟩ := at_T31 (Kd.R_reads' HO_5.out).2.2 x8_1 p336 q336; cases e336; replace p336 := eq_true p336; replace q336 := eq_true q336; have p339 : 0 ≤ (x8_1 : Int) := of_decide_eq_true (by first | (with_reducible assumption) | assumption); have q339 : x8_1 < (t316.length : Int) := of_decide_eq_true (by first | (with_reducible assumption) | assumption); obtain ⟨ad339, e339, hx339_0, hx339_1, hx339_2, hx339_3⟩ := at_T31 (Kd.R_reads' HO_5.out).2.2 x8_1 p339 q339; obtain rfl : ad336 = ad339 := (by injection e339); replace p339 := eq_true p339; replace q339 := eq_true q339))
                            repeat (go_quiet (first | ((with_reducible refine gate_dst (N := 43) rfl ?_); (try (refine gate_guard (by rfl) ?_; dsimp only)); refine Kd.R_lit Kd.string _ 9 ?hg (N := 43) ?hd (xs := ([(⟨#[32]⟩ : ByteArray), (⟨#[9, 10]⟩ : ByteArray), (⟨#[32, 35, 32, 110, 111, 32, 116, 111, 107, 101, 110, 32, 39, 32, 104, 101, 114, 101, 10]⟩ : ByteArray), (⟨#[13, 10, 32]⟩ : ByteArray)] : List ByteArray)) (inner := [.string (⟨#[32]⟩ : ByteArray), .string (⟨#[9, 10]⟩ : ByteArray), .string (⟨#[32, 35, 32, 110, 111, 32, 116, 111, 107, 101, 110, 32, 39, 32, 104, 101, 114, 101, 10]⟩ : ByteArray), .string (⟨#[13, 10, 32]⟩ : ByteArray)]) (ok := fun _ => True) (okp := fun _ => True) ?hr ?hp (fun _ hk => hk) trivial (Below.refl _ _) (Nat.le_refl _) (by simp) ?_; (case hd => rfl); (case hg => rfl); (case hr => first | (go_simp; done) | (go_simp; rfl)); (case hp => exact (Reps.one (show Kd.M Kd.string _ _ _ (⟨#[32]⟩ : ByteArray) [.string (⟨#[32]⟩ : ByteArray)] from rfl) (Reps.one (show Kd.M Kd.string _ _ _ (⟨#[9, 10]⟩ : ByteArray) [.string (⟨#[9, 10]⟩ : ByteArray)] from rfl) (Reps.one (show Kd.M Kd.string _ _ _ (⟨#[32, 35, 32, 110, 111, 32, 116, 111, 107, 101, 110, 32, 39, 32, 104, 101, 114, 101, 10]⟩ : ByteArray) [.string (⟨#[32, 35, 32, 110, 111, 32, 116, 111, 107, 101, 110, 32, 39, 32, 104, 101, 114, 101, 10]⟩ : ByteArray)] from rfl) (Reps.one (show Kd.M Kd.string _ _ _ (⟨#[13, 10, 32]⟩ : ByteArray) [.string (⟨#[13, 10, 32]⟩ : ByteArray)] from rfl) (Reps.none _ _)))))); intro v333 w47 ho48 hb hg_ hnew_; clear hg_ hnew_; (first | rw [← Ny332.out] at ho48 | (simp only [Int.reduceToNat] at ho48; rw [← Ny332.out] at ho48)); have n0_ := Aside0.mk (Kd.R_below (by (with_reducible repeat (first | apply Kd.R_alloc | apply Kd.R_drewN | apply Kd.R_drew)); exact HO_5.out) hb); have n1_ := Aside0.mk (Kd.R_lower ho48 (below_size (by repeat (first | (with_reducible first | exact HB.out | apply below_alloc | apply pw_below_drewN | apply below_drew1 | refine below_set ?_ GE322.out) | exact HB.out)))); have n2_ := Aside0.mk (blk_below (g := gb322) (o := .cells #[.int .i64 t319, .int .i64 t320, .int .i64 t321] 27 (0, 0)) (by (with_reducible repeat (first | refine blk_drewN ?_ _ | refine blk_drew ?_ | refine blk_alloc ?_ _)); exact BK322.out) hb); have n3_ := Aside0.mk (below_step (by repeat (first | (with_reducible first | exact HB.out | apply below_alloc | apply pw_below_drewN | apply below_drew1 | refine below_set ?_ GE322.out) | exact HB.out)) hb); clear HO_5; clear BK322; clear HB; have HO_5 := n0_; have HO334 := n1_; have BK322 := n2_; have HB := n3_; clear n0_ n1_ n2_ n3_; clear hb ho48; obtain ⟨Ao49, co49, eo49⟩ := Kd.R_slice HO334.out; subst eo49; have p335 : 0 ≤ (0 : Int) := (by omega); have q335 : 0 < (y332.length : Int) := of_decide_eq_true (by first | (with_reducible assumption) | assumption); obtain ⟨ad335, e335, hx335_0⟩ := Kd.at_string (Kd.R_reads' HO334.out).2.2 0 p335 q335; cases e335; have qi335 : (0 < y332.length) = True := eq_true (by omega); (try rw [show ((0 : Int)).toNat = 0 from rfl] at hx335_0); (try rw [Addr.add_zero'] at hx335_0); replace p335 := eq_true p335; replace q335 := eq_true q335; have p336 : 0 ≤ (x8_1 : Int) := of_decide_eq_true (by first | (with_reducible assumption) | assumption); have q336 : x8_1 < (t316.length : Int) := of_decide_eq_true (by first | (with_reducible assumption) | assumption); obtain ⟨ad336, e336, hx336_0, hx336_1, hx336_2, hx336_3⟩ := at_T31 (Kd.R_reads' HO_5.out).2.2 x8_1 p336 q336; cases e336; replace p336 := eq_true p336; replace q336 := eq_true q336; have p339 : 0 ≤ (x8_1 : Int) := of_decide_eq_true (by first | (with_reducible assumption) | assumption); have q339 : x8_1 < (t316.length : Int) := of_decide_eq_true (by first | (with_reducible assumption) | assumption); obtain ⟨ad339, e339, hx339_0, hx339_1, hx339_2, hx339_3⟩ := at_T31 (Kd.R_reads' HO_5.out).2.2 x8_1 p339 q339; obtain rfl : ad336 = ad339 := (by injection e339); replace p339 := eq_true p339; replace q339 := eq_true q339)); try go_wp2_with (first | ((with_reducible refine gate_dst (N := 43) rfl ?_); (try (refine gate_guard (by rfl) ?_; dsimp only)); refine Kd.R_lit Kd.string _ 9 ?hg (N := 43) ?hd (xs := ([(⟨#[32]⟩ : ByteArray), (⟨#[9, 10]⟩ : ByteArray), (⟨#[32, 35, 32, 110, 111, 32, 116, 111, 107, 101, 110, 32, 39, 32, 104, 101, 114, 101, 10]⟩ : ByteArray), (⟨#[13, 10, 32]⟩ : ByteArray)] : List ByteArray)) (inner := [.string (⟨#[32]⟩ : ByteArray), .string (⟨#[9, 10]⟩ : ByteArray), .string (⟨#[32, 35, 32, 110, 111, 32, 116, 111, 107, 101, 110, 32, 39, 32, 104, 101, 114, 101, 10]⟩ : ByteArray), .string (⟨#[13, 10, 32]⟩ : ByteArray)]) (ok := fun _ => True) (okp := fun _ => True) ?hr ?hp (fun _ hk => hk) trivial (Below.refl _ _) (Nat.le_refl _) (by simp) ?_; (case hd => rfl); (case hg => rfl); (case hr => first | (go_simp; done) | (go_simp; rfl)); (case hp => exact (Reps.one (show Kd.M Kd.string _ _ _ (⟨#[32]⟩ : ByteArray) [.string (⟨#[32]⟩ : ByteArray)] from rfl) (Reps.one (show Kd.M Kd.string _ _ _ (⟨#[9, 10]⟩ : ByteArray) [.string (⟨#[9, 10]⟩ : ByteArray)] from rfl) (Reps.one (show Kd.M Kd.string _ _ _ (⟨#[32, 35, 32, 110, 111, 32, 116, 111, 107, 101, 110, 32, 39, 32, 104, 101, 114, 101, 10]⟩ : ByteArray) [.string (⟨#[32, 35, 32, 110, 111, 32, 116, 111, 107, 101, 110, 32, 39, 32, 104, 101, 114, 101, 10]⟩ : ByteArray)] from rfl) (Reps.one (show Kd.M Kd.string _ _ _ (⟨#[13, 10, 32]⟩ : ByteArray) [.string (⟨#[13, 10, 32]⟩ : ByteArray)] from rfl) (Reps.none _ _)))))); intro v333 w47 ho48 hb hg_ hnew_; clear hg_ hnew_; (first | rw [← Ny332.out] at ho48 | (simp only [Int.reduceToNat] at ho48; rw [← Ny332.out] at ho48)); have n0_ := Aside0.mk (Kd.R_below (by (with_reducible repeat (first | apply Kd.R_alloc | apply Kd.R_drewN | apply Kd.R_drew)); exact HO_5.out) hb); have n1_ := Aside0.mk (Kd.R_lower ho48 (below_size (by repeat (first | (with_reducible first | exact HB.out | apply below_alloc | apply pw_below_drewN | apply below_drew1 | refine below_set ?_ GE322.out) | exact HB.out)))); have n2_ := Aside0.mk (blk_below (g := gb322) (o := .cells #[.int .i64 t319, .int .i64 t320, .int .i64 t321] 27 (0, 0)) (by (with_reducible repeat (first | refine blk_drewN ?_ _ | refine blk_drew ?_ | refine blk_alloc ?_ _)); exact BK322.out) hb); have n3_ := Aside0.mk (below_step (by repeat (first | (with_reducible first | exact HB.out | apply below_alloc | apply pw_below_drewN | apply below_drew1 | refine below_set ?_ GE322.out) | exact HB.out)) hb); clear HO_5; clear BK322; clear HB; have HO_5 := n0_; have HO334 := n1_; have BK322 := n2_; have HB := n3_; clear n0_ n1_ n2_ n3_; clear hb ho48; obtain ⟨Ao49, co49, eo49⟩ := Kd.R_slice HO334.out; subst eo49; have p335 : 0 ≤ (0 : Int) := (by omega); have q335 : 0 < (y332.length : Int) := of_decide_eq_true (by first | (with_reducible assumption) | assumption); obtain ⟨ad335, e335, hx335_0⟩ := Kd.at_string (Kd.R_reads' HO334.out).2.2 0 p335 q335; cases e335; have qi335 : (0 < y332.length) = True := eq_true (by omega); (try rw [show ((0 : Int)).toNat = 0 from rfl] at hx335_0); (try rw [Addr.add_zero'] at hx335_0); replace p335 := eq_true p335; replace q335 := eq_true q335; have p336 : 0 ≤ (x8_1 : Int) := of_decide_eq_true (by first | (with_reducible assumption) | assumption); have q336 : x8_1 < (t316.length : Int) := of_decide_eq_true (by first | (with_reducible assumption) | assumption); obtain ⟨ad336, e336, hx336_0, hx336_1, hx336_2, hx336_3⟩ := at_T31 (Kd.R_reads' HO_5.out).2.2 x8_1 p336 q336; cases e336; replace p336 := eq_true p336; replace q336 := eq_true q336; have p339 : 0 ≤ (x8_1 : Int) := of_decide_eq_true (by first | (with_reducible assumption) | assumption); have q339 : x8_1 < (t316.length : Int) := of_decide_eq_true (by first | (with_reducible assumption) | assumption); obtain ⟨ad339, e339, hx339_0, hx339_1, hx339_2, hx339_3⟩ := at_T31 (Kd.R_reads' HO_5.out).2.2 x8_1 p339 q339; obtain rfl : ad336 = ad339 := (by injection e339); replace p339 := eq_true p339; replace q339 := eq_true q339)))
                            go_roundg k1
                            case measure => have := HK1.out; omega
                            case rel => exact ⟨((x7_1 ++ (rdOf ByteArray.empty y332 0)) ++ ((rd_T31 t316 x8_1).f1)), (wrap64 (x8_1 + 1)), (by first | rfl | (simp; done) | (simp [*]; done)), (by first | rfl | (simp; done) | (simp [*]; done)), H', ⟨by have := HK1.out; omega⟩, ⟨by (with_reducible repeat (first | apply Kd.R_alloc | apply Kd.R_drewN | apply Kd.R_drew)); exact HO_5.out⟩, ⟨by (with_reducible repeat (first | refine blk_drewN ?_ _ | refine blk_drew ?_ | refine blk_alloc ?_ _)); exact BK322.out⟩, ⟨by repeat (first | (with_reducible first | exact HB.out | apply below_alloc | apply pw_below_drewN | apply below_drew1 | refine below_set ?_ GE322.out) | exact HB.out)⟩⟩
                          · rw [if_neg c45] at H
                            exact absurd H (by simp)
                      · rw [if_neg c36] at H
                        exact absurd H (by simp)
                    · rw [if_neg c35] at H
                      exact absurd H (by simp)
                  · rw [if_neg c34] at H
                    exact absurd H (by simp)
                · rw [if_neg c33] at H
                  exact absurd H (by simp)
            · rw [if_neg c13] at H
              have c13b0 : decide (x8_1 < (wrap64 ((t316.length : Int) - 1))) = false := decide_eq_false c13
              clear c13
              replace H := Option.bind_eq_some_iff.mp H
              obtain ⟨⟨t340, t343, t344, t345⟩, A500, H⟩ := H
              replace H : (if t345 = 0 then (primerlaw04_LexBlank.j1 k1 t316 t340 ((t340.length : Int) != (t316.length : Int))) else (primerlaw04_LexBlank.j1 k1 t316 t340 true)) = some r := H
              have A50 := Aside0.mk A500
              clear A500
              have HC51 := Aside0.mk H
              clear H
              obtain ⟨Ao52, co52, eo52⟩ := Kd.R_slice HO_5.out
              subst eo52
              go_upto_region 20 with (first | (go_at_call 11; (with_reducible refine (lex_Scan.calls x7_1 t340 t343 t344 t345 _ A50.out).mono ?_); rintro e w53 ⟨v341, rfl, ho0, hb⟩; have n0_ := Aside0.mk (Kd.R_elder' (by (with_reducible repeat (first | apply Kd.R_alloc | apply Kd.R_drewN | apply Kd.R_drew)); exact HO_5.out) (Kd.R_base ho0) hb); have n1_ := Aside0.mk (Kd.R_lower (Kd.R_new' ho0 (Kd.R_lt (by (with_reducible repeat (first | apply Kd.R_alloc | apply Kd.R_drewN | apply Kd.R_drew)); exact HO_5.out))) (below_size (by repeat (first | (with_reducible first | exact HB.out | apply below_alloc | apply pw_below_drewN | apply below_drew1 | refine below_set ?_ GE322.out) | exact HB.out)))); have n2_ := Aside0.mk (blk_below (g := gb322) (o := .cells #[.int .i64 t319, .int .i64 t320, .int .i64 t321] 27 (0, 0)) (by (with_reducible repeat (first | refine blk_drewN ?_ _ | refine blk_drew ?_ | refine blk_alloc ?_ _)); exact BK322.out) hb); have n3_ := Aside0.mk (below_step (by repeat (first | (with_reducible first | exact HB.out | apply below_alloc | apply pw_below_drewN | apply below_drew1 | refine below_set ?_ GE322.out) | exact HB.out)) hb); clear HO_5; clear BK322; clear HB; have HO_5 := n0_; have HO342 := n1_; have BK322 := n2_; have HB := n3_; clear n0_ n1_ n2_ n3_; (try clear hb); (try clear hb2); (try clear hk); (try clear hi); (try clear ho0)) | ((with_reducible refine gate_dst (N := 11) rfl ?_); (try (refine gate_guard (by rfl) ?_; dsimp only)); refine box_event ?hg (N := 11) ?hd (cs := #[.int .i64 0, .int .i64 0, .int .i64 0]) (t := 27) ?hr ?_; (case hd => rfl); (case hg => rfl); (case hr => first | (go_simp; done) | (go_simp; rfl)); intro gb346 hg w54 hbox hb; have n0_ := Aside0.mk (Kd.R_below (by (with_reducible repeat (first | apply Kd.R_alloc | apply Kd.R_drewN | apply Kd.R_drew)); exact HO_5.out) hb); have n1_ := Aside0.mk (Kd.R_below (by (with_reducible repeat (first | apply Kd.R_alloc | apply Kd.R_drewN | apply Kd.R_drew)); exact HO342.out) hb); have n2_ := Aside0.mk (blk_below (g := gb322) (o := .cells #[.int .i64 t319, .int .i64 t320, .int .i64 t321] 27 (0, 0)) (by (with_reducible repeat (first | refine blk_drewN ?_ _ | refine blk_drew ?_ | refine blk_alloc ?_ _)); exact BK322.out) hb); have n3_ := Aside0.mk (below_step (by repeat (first | (with_reducible first | exact HB.out | apply below_alloc | apply pw_below_drewN | apply below_drew1 | refine below_set ?_ GE322.out) | exact HB.out)) hb); have n4_ := Aside0.mk (hbox); have n5_ := Aside0.mk ((by rw [hg]; exact (below_size (by repeat (first | (with_reducible first | exact HB.out | apply below_alloc | apply pw_below_drewN | apply below_drew1 | refine below_set ?_ GE322.out) | exact HB.out))) : w.heap.size ≤ gb346)); have n6_ := Aside0.mk ((by rw [hg]; exact (below_size (by repeat (first | (with_reducible first | exact HB.out | apply below_alloc | apply pw_below_drewN | apply below_drew1 | refine below_set ?_ GE322.out) | exact HB.out))) : w.heap.size ≤ gb346)); have n7_ := Aside0.mk ((by rw [hg]; exact Nat.ne_of_lt (blk_lt (g := gb322) (o := .cells #[.int .i64 t319, .int .i64 t320, .int .i64 t321] 27 (0, 0)) (by (with_reducible repeat (first | refine blk_drewN ?_ _ | refine blk_drew ?_ | refine blk_alloc ?_ _)); exact BK322.out)) : gb322 ≠ gb346)); have n8_ := Aside0.mk ((by rw [hg]; exact Nat.ne_of_gt (blk_lt (g := gb322) (o := .cells #[.int .i64 t319, .int .i64 t320, .int .i64 t321] 27 (0, 0)) (by (with_reducible repeat (first | refine blk_drewN ?_ _ | refine blk_drew ?_ | refine blk_alloc ?_ _)); exact BK322.out)) : gb346 ≠ gb322)); clear HO_5; clear HO342; clear BK322; clear HB; have HO_5 := n0_; have HO342 := n1_; have BK322 := n2_; have HB := n3_; have BK346 := n4_; have GW346 := n5_; have GE346 := n6_; have NB322_346 := n7_; have NB346_322 := n8_; clear n0_ n1_ n2_ n3_ n4_ n5_ n6_ n7_ n8_; clear hb hbox hg; have hnb55 := NB346_322.out; have hnc55 := NB322_346.out; have hcz56_0 : w54.cell? ⟨gb346, 0, none⟩ = some (.int .i64 0) := (blk_cell BK346.out 0).trans rfl; have hcz56_1 : w54.cell? ⟨gb346, 1, none⟩ = some (.int .i64 0) := (blk_cell BK346.out 1).trans rfl; have hcz56_2 : w54.cell? ⟨gb346, 2, none⟩ = some (.int .i64 0) := (blk_cell BK346.out 2).trans rfl; have hfz56_0 := blk_frozen BK346.out 0; have hfz56_1 := blk_frozen BK346.out 1; have hfz56_2 := blk_frozen BK346.out 2))
              repeat (go_quiet (first | (go_at_call 11; (with_reducible refine (lex_Scan.calls x7_1 t340 t343 t344 t345 _ A50.out).mono ?_); rintro e w53 ⟨v341, rfl, ho0, hb⟩; have n0_ := Aside0.mk (Kd.R_elder' (by (with_reducible repeat (first | apply Kd.R_alloc | apply Kd.R_drewN | apply Kd.R_drew)); exact HO_5.out) (Kd.R_base ho0) hb); have n1_ := Aside0.mk (Kd.R_lower (Kd.R_new' ho0 (Kd.R_lt (by (with_reducible repeat (first | apply Kd.R_alloc | apply Kd.R_drewN | apply Kd.R_drew)); exact HO_5.out))) (below_size (by repeat (first | (with_reducible first | exact HB.out | apply below_alloc | apply pw_below_drewN | apply below_drew1 | refine below_set ?_ GE322.out) | exact HB.out)))); have n2_ := Aside0.mk (blk_below (g := gb322) (o := .cells #[.int .i64 t319, .int .i64 t320, .int .i64 t321] 27 (0, 0)) (by (with_reducible repeat (first | refine blk_drewN ?_ _ | refine blk_drew ?_ | refine blk_alloc ?_ _)); exact BK322.out) hb); have n3_ := Aside0.mk (below_step (by repeat (first | (with_reducible first | exact HB.out | apply below_alloc | apply pw_below_drewN | apply below_drew1 | refine below_set ?_ GE322.out) | exact HB.out)) hb); clear HO_5; clear BK322; clear HB; have HO_5 := n0_; have HO342 := n1_; have BK322 := n2_; have HB := n3_; clear n0_ n1_ n2_ n3_; (try clear hb); (try clear hb2); (try clear hk); (try clear hi); (try clear ho0)) | ((with_reducible refine gate_dst (N := 11) rfl ?_); (try (refine gate_guard (by rfl) ?_; dsimp only)); refine box_event ?hg (N := 11) ?hd (cs := #[.int .i64 0, .int .i64 0, .int .i64 0]) (t := 27) ?hr ?_; (case hd => rfl); (case hg => rfl); (case hr => first | (go_simp; done) | (go_simp; rfl)); intro gb346 hg w54 hbox hb; have n0_ := Aside0.mk (Kd.R_below (by (with_reducible repeat (first | apply Kd.R_alloc | apply Kd.R_drewN | apply Kd.R_drew)); exact HO_5.out) hb); have n1_ := Aside0.mk (Kd.R_below (by (with_reducible repeat (first | apply Kd.R_alloc | apply Kd.R_drewN | apply Kd.R_drew)); exact HO342.out) hb); have n2_ := Aside0.mk (blk_below (g := gb322) (o := .cells #[.int .i64 t319, .int .i64 t320, .int .i64 t321] 27 (0, 0)) (by (with_reducible repeat (first | refine blk_drewN ?_ _ | refine blk_drew ?_ | refine blk_alloc ?_ _)); exact BK322.out) hb); have n3_ := Aside0.mk (below_step (by repeat (first | (with_reducible first | exact HB.out | apply below_alloc | apply pw_below_drewN | apply below_drew1 | refine below_set ?_ GE322.out) | exact HB.out)) hb); have n4_ := Aside0.mk (hbox); have n5_ := Aside0.mk ((by rw [hg]; exact (below_size (by repeat (first | (with_reducible first | exact HB.out | apply below_alloc | apply pw_below_drewN | apply below_drew1 | refine below_set ?_ GE322.out) | exact HB.out))) : w.heap.size ≤ gb346)); have n6_ := Aside0.mk ((by rw [hg]; exact (below_size (by repeat (first | (with_reducible first | exact HB.out | apply below_alloc | apply pw_below_drewN | apply below_drew1 | refine below_set ?_ GE322.out) | exact HB.out))) : w.heap.size ≤ gb346)); have n7_ := Aside0.mk ((by rw [hg]; exact Nat.ne_of_lt (blk_lt (g := gb322) (o := .cells #[.int .i64 t319, .int .i64 t320, .int .i64 t321] 27 (0, 0)) (by (with_reducible repeat (first | refine blk_drewN ?_ _ | refine blk_drew ?_ | refine blk_alloc ?_ _)); exact BK322.out)) : gb322 ≠ gb346)); have n8_ := Aside0.mk ((by rw [hg]; exact Nat.ne_of_gt (blk_lt (g := gb322) (o := .cells #[.int .i64 t319, .int .i64 t320, .int .i64 t321] 27 (0, 0)) (by (with_reducible repeat (first | refine blk_drewN ?_ _ | refine blk_drew ?_ | refine blk_alloc ?_ _)); exact BK322.out)) : gb346 ≠ gb322)); clear HO_5; clear HO342; clear BK322; clear HB; have HO_5 := n0_; have HO342 := n1_; have BK322 := n2_; have HB := n3_; have BK346 := n4_; have GW346 := n5_; have GE346 := n6_; have NB322_346 := n7_; have NB346_322 := n8_; clear n0_ n1_ n2_ n3_ n4_ n5_ n6_ n7_ n8_; clear hb hbox hg; have hnb55 := NB346_322.out; have hnc55 := NB322_346.out; have hcz56_0 : w54.cell? ⟨gb346, 0, none⟩ = some (.int .i64 0) := (blk_cell BK346.out 0).trans rfl; have hcz56_1 : w54.cell? ⟨gb346, 1, none⟩ = some (.int .i64 0) := (blk_cell BK346.out 1).trans rfl; have hcz56_2 : w54.cell? ⟨gb346, 2, none⟩ = some (.int .i64 0) := (blk_cell BK346.out 2).trans rfl; have hfz56_0 := blk_frozen BK346.out 0; have hfz56_1 := blk_frozen BK346.out 1; have hfz56_2 := blk_frozen BK346.out 2)); go_upto_region 20 with (first | (go_at_call 11; (with_reducible refine (lex_Scan.calls x7_1 t340 t343 t344 t345 _ A50.out).mono ?_); rintro e w53 ⟨v341, rfl, ho0, hb⟩; have n0_ := Aside0.mk (Kd.R_elder' (by (with_reducible repeat (first | apply Kd.R_alloc | apply Kd.R_drewN | apply Kd.R_drew)); exact HO_5.out) (Kd.R_base ho0) hb); have n1_ := Aside0.mk (Kd.R_lower (Kd.R_new' ho0 (Kd.R_lt (by (with_reducible repeat (first | apply Kd.R_alloc | apply Kd.R_drewN | apply Kd.R_drew)); exact HO_5.out))) (below_size (by repeat (first | (with_reducible first | exact HB.out | apply below_alloc | apply pw_below_drewN | apply below_drew1 | refine below_set ?_ GE322.out) | exact HB.out)))); have n2_ := Aside0.mk (blk_below (g := gb322) (o := .cells #[.int .i64 t319, .int .i64 t320, .int .i64 t321] 27 (0, 0)) (by (with_reducible repeat (first | refine blk_drewN ?_ _ | refine blk_drew ?_ | refine blk_alloc ?_ _)); exact BK322.out) hb); have n3_ := Aside0.mk (below_step (by repeat (first | (with_reducible first | exact HB.out | apply below_alloc | apply pw_below_drewN | apply below_drew1 | refine below_set ?_ GE322.out) | exact HB.out)) hb); clear HO_5; clear BK322; clear HB; have HO_5 := n0_; have HO342 := n1_; have BK322 := n2_; have HB := n3_; clear n0_ n1_ n2_ n3_; (try clear hb); (try clear hb2); (try clear hk); (try clear hi); (try clear ho0)) | ((with_reducible refine gate_dst (N := 11) rfl ?_); (try (refine gate_guard (by rfl) ?_; dsimp only)); refine box_event ?hg (N := 11) ?hd (cs := #[.int .i64 0, .int .i64 0, .int .i64 0]) (t := 27) ?hr ?_; (case hd => rfl); (case hg => rfl); (case hr => first | (go_simp; done) | (go_simp; rfl)); intro gb346 hg w54 hbox hb; have n0_ := Aside0.mk (Kd.R_below (by (with_reducible repeat (first | apply Kd.R_alloc | apply Kd.R_drewN | apply Kd.R_drew)); exact HO_5.out) hb); have n1_ := Aside0.mk (Kd.R_below (by (with_reducible repeat (first | apply Kd.R_alloc | apply Kd.R_drewN | apply Kd.R_drew)); exact HO342.out) hb); have n2_ := Aside0.mk (blk_below (g := gb322) (o := .cells #[.int .i64 t319, .int .i64 t320, .int .i64 t321] 27 (0, 0)) (by (with_reducible repeat (first | refine blk_drewN ?_ _ | refine blk_drew ?_ | refine blk_alloc ?_ _)); exact BK322.out) hb); have n3_ := Aside0.mk (below_step (by repeat (first | (with_reducible first | exact HB.out | apply below_alloc | apply pw_below_drewN | apply below_drew1 | refine below_set ?_ GE322.out) | exact HB.out)) hb); have n4_ := Aside0.mk (hbox); have n5_ := Aside0.mk ((by rw [hg]; exact (below_size (by repeat (first | (with_reducible first | exact HB.out | apply below_alloc | apply pw_below_drewN | apply below_drew1 | refine below_set ?_ GE322.out) | exact HB.out))) : w.heap.size ≤ gb346)); have n6_ := Aside0.mk ((by rw [hg]; exact (below_size (by repeat (first | (with_reducible first | exact HB.out | apply below_alloc | apply pw_below_drewN | apply below_drew1 | refine below_set ?_ GE322.out) | exact HB.out))) : w.heap.size ≤ gb346)); have n7_ := Aside0.mk ((by rw [hg]; exact Nat.ne_of_lt (blk_lt (g := gb322) (o := .cells #[.int .i64 t319, .int .i64 t320, .int .i64 t321] 27 (0, 0)) (by (with_reducible repeat (first | refine blk_drewN ?_ _ | refine blk_drew ?_ | refine blk_alloc ?_ _)); exact BK322.out)) : gb322 ≠ gb346)); have n8_ := Aside0.mk ((by rw [hg]; exact Nat.ne_of_gt (blk_lt (g := gb322) (o := .cells #[.int .i64 t319, .int .i64 t320, .int .i64 t321] 27 (0, 0)) (by (with_reducible repeat (first | refine blk_drewN ?_ _ | refine blk_drew ?_ | refine blk_alloc ?_ _)); exact BK322.out)) : gb346 ≠ gb322)); clear HO_5; clear HO342; clear BK322; clear HB; have HO_5 := n0_; have HO342 := n1_; have BK322 := n2_; have HB := n3_; have BK346 := n4_; have GW346 := n5_; have GE346 := n6_; have NB322_346 := n7_; have NB346_322 := n8_; clear n0_ n1_ n2_ n3_ n4_ n5_ n6_ n7_ n8_; clear hb hbox hg; have hnb55 := NB346_322.out; have hnc55 := NB322_346.out; have hcz56_0 : w54.cell? ⟨gb346, 0, none⟩ = some (.int .i64 0) := (blk_cell BK346.out 0).trans rfl; have hcz56_1 : w54.cell? ⟨gb346, 1, none⟩ = some (.int .i64 0) := (blk_cell BK346.out 1).trans rfl; have hcz56_2 : w54.cell? ⟨gb346, 2, none⟩ = some (.int .i64 0) := (blk_cell BK346.out 2).trans rfl; have hfz56_0 := blk_frozen BK346.out 0; have hfz56_1 := blk_frozen BK346.out 1; have hfz56_2 := blk_frozen BK346.out 2)))
              (try simp only [Act.put, List.setIfInBounds_toArray, List.set_cons_zero, List.set_cons_succ])
              go_cut [83] (fun v83 wc => ∃ (kq : Nat) (x83_50 : Bool), v83 = .bool x83_50 ∧ Aside0 (primerlaw04_LexBlank.j1 kq t316 t340 x83_50 = some r) ∧ Aside0 (kq ≤ k1) ∧ Aside0 (Kd.R k31 31 wc w.heap.size (fun k_ => some k_ ≠ (v341 : Value).ownBlock) (.slice Ao52 t316.length co52) t316) ∧ Aside0 (Kd.R k31 31 wc w.heap.size (fun k_ => some k_ ≠ ((.slice Ao52 t316.length co52) : Value).ownBlock) v341 t340) ∧ Aside0 (wc.heap[gb322]? = some (.cells #[.int .i64 t319, .int .i64 t320, .int .i64 t321] 27 (0, 0))) ∧ Aside0 (wc.heap[gb346]? = some (.cells #[.int .i64 t343, .int .i64 t344, .int .i64 t345] 27 (0, 0))) ∧ Aside0 (Below w.heap.size w wc))
              case first =>
                have H := HC51.out
                clear HC51
                by_cases c57 : t345 = 0
                · rw [if_pos c57] at H
                  have c57b0 : (t345 == 0) = true := beq_iff_eq.mpr c57
                  have c57b1 : (t345 != 0) = false := bne_eq_false_iff_eq.mpr c57
                  clear c57
                  (first | rw [c57b0] | (simp only [i64_w, i32_w]; rw [c57b0]) | skip)
                  have H' := Aside0.mk H
                  clear H
                  have hnb58 := NB346_322.out
                  have hnc58 := NB322_346.out
                  have hcz59_0 : w54.cell? ⟨gb346, 0, none⟩ = some (.int .i64 0) := (blk_cell BK346.out 0).trans rfl
                  have hcz59_1 : w54.cell? ⟨gb346, 1, none⟩ = some (.int .i64 0) := (blk_cell BK346.out 1).trans rfl
                  have hcz59_2 : w54.cell? ⟨gb346, 2, none⟩ = some (.int .i64 0) := (blk_cell BK346.out 2).trans rfl
                  have hfz59_0 := blk_frozen BK346.out 0
                  have hfz59_1 := blk_frozen BK346.out 1
                  have hfz59_2 := blk_frozen BK346.out 2
                  obtain ⟨Ao60, co60, eo60⟩ := Kd.R_slice HO342.out
                  subst eo60
                  go_wp2
                  repeat (go_quiet (fail); try go_wp2)
                  go_meet
                  case rel => exact ⟨_, (((t340.length : Int) != (t316.length : Int))), (by first | rfl | (simp; done) | (simp [*]; done)), H', ⟨by have := HK1.out; first | omega | exact Nat.le_refl _⟩, ⟨by (with_reducible repeat (first | apply Kd.R_alloc | apply Kd.R_drewN | apply Kd.R_drew)); exact Kd.R_mono (Kd.R_far (p := ⟨gb346, 2, none⟩) (Kd.R_far (p := ⟨gb346, 1, none⟩) (Kd.R_far (p := ⟨gb346, 0, none⟩) (Kd.R_types HO_5.out BK346.out (by decide)) (fun _ hk => hk.2) (.int .i64 t343)) (fun _ hk => hk.2) (.int .i64 t344)) (fun _ hk => hk.2) (.int .i64 t345)) (fun _ hk => hk.1.2)⟩, ⟨by (with_reducible repeat (first | apply Kd.R_alloc | apply Kd.R_drewN | apply Kd.R_drew)); exact Kd.R_mono (Kd.R_far (p := ⟨gb346, 2, none⟩) (Kd.R_far (p := ⟨gb346, 1, none⟩) (Kd.R_far (p := ⟨gb346, 0, none⟩) (Kd.R_types HO342.out BK346.out (by decide)) (fun _ hk => hk.2) (.int .i64 t343)) (fun _ hk => hk.2) (.int .i64 t344)) (fun _ hk => hk.2) (.int .i64 t345)) (fun _ hk => hk.1.2)⟩, ⟨by (with_reducible repeat (first | refine blk_drewN ?_ _ | refine blk_drew ?_ | refine blk_alloc ?_ _)); refine blk_far ?_ NB322_346.out _; (with_reducible repeat (first | refine blk_drewN ?_ _ | refine blk_drew ?_ | refine blk_alloc ?_ _)); refine blk_far ?_ NB322_346.out _; (with_reducible repeat (first | refine blk_drewN ?_ _ | refine blk_drew ?_ | refine blk_alloc ?_ _)); refine blk_far ?_ NB322_346.out _; (with_reducible repeat (first | refine blk_drewN ?_ _ | refine blk_drew ?_ | refine blk_alloc ?_ _)); exact BK322.out⟩, ⟨by (with_reducible repeat (first | refine blk_drewN ?_ _ | refine blk_drew ?_ | refine blk_alloc ?_ _)); refine blk_put (cs := #[.int .i64 t343, .int .i64 t344, .int .i64 0]) ?_ 2 _ rfl; (with_reducible repeat (first | refine blk_drewN ?_ _ | refine blk_drew ?_ | refine blk_alloc ?_ _)); refine blk_put (cs := #[.int .i64 t343, .int .i64 0, .int .i64 0]) ?_ 1 _ rfl; (with_reducible repeat (first | refine blk_drewN ?_ _ | refine blk_drew ?_ | refine blk_alloc ?_ _)); refine blk_put (cs := #[.int .i64 0, .int .i64 0, .int .i64 0]) ?_ 0 _ rfl; (with_reducible repeat (first | refine blk_drewN ?_ _ | refine blk_drew ?_ | refine blk_alloc ?_ _)); exact BK346.out⟩, ⟨by repeat (first | (with_reducible first | exact HB.out | apply below_alloc | apply pw_below_drewN | apply below_drew1 | refine below_set ?_ GE322.out | refine below_set ?_ GE346.out) | exact HB.out)⟩⟩
                · rw [if_neg c57] at H
                  have c57b0 : (t345 == 0) = false := beq_eq_false_iff_ne.mpr c57
                  have c57b1 : (t345 != 0) = true := bne_iff_ne.mpr c57
                  (first | rw [c57b0] | (simp only [i64_w, i32_w]; rw [c57b0]) | skip)
                  have H' := Aside0.mk H
                  clear H
                  have hnb61 := NB346_322.out
                  have hnc61 := NB322_346.out
                  have hcz62_0 : w54.cell? ⟨gb346, 0, none⟩ = some (.int .i64 0) := (blk_cell BK346.out 0).trans rfl
                  have hcz62_1 : w54.cell? ⟨gb346, 1, none⟩ = some (.int .i64 0) := (blk_cell BK346.out 1).trans rfl
                  have hcz62_2 : w54.cell? ⟨gb346, 2, none⟩ = some (.int .i64 0) := (blk_cell BK346.out 2).trans rfl
                  have hfz62_0 := blk_frozen BK346.out 0
                  have hfz62_1 := blk_frozen BK346.out 1
                  have hfz62_2 := blk_frozen BK346.out 2
                  go_wp2
                  repeat (go_quiet (fail); try go_wp2)
                  go_meet
                  case rel => exact ⟨_, (true), (by first | rfl | (simp; done) | (simp [*]; done)), H', ⟨by have := HK1.out; first | omega | exact Nat.le_refl _⟩, ⟨by (with_reducible repeat (first | apply Kd.R_alloc | apply Kd.R_drewN | apply Kd.R_drew)); exact Kd.R_mono (Kd.R_far (p := ⟨gb346, 2, none⟩) (Kd.R_far (p := ⟨gb346, 1, none⟩) (Kd.R_far (p := ⟨gb346, 0, none⟩) (Kd.R_types HO_5.out BK346.out (by decide)) (fun _ hk => hk.2) (.int .i64 t343)) (fun _ hk => hk.2) (.int .i64 t344)) (fun _ hk => hk.2) (.int .i64 t345)) (fun _ hk => hk.1.2)⟩, ⟨by (with_reducible repeat (first | apply Kd.R_alloc | apply Kd.R_drewN | apply Kd.R_drew)); exact Kd.R_mono (Kd.R_far (p := ⟨gb346, 2, none⟩) (Kd.R_far (p := ⟨gb346, 1, none⟩) (Kd.R_far (p := ⟨gb346, 0, none⟩) (Kd.R_types HO342.out BK346.out (by decide)) (fun _ hk => hk.2) (.int .i64 t343)) (fun _ hk => hk.2) (.int .i64 t344)) (fun _ hk => hk.2) (.int .i64 t345)) (fun _ hk => hk.1.2)⟩, ⟨by (with_reducible repeat (first | refine blk_drewN ?_ _ | refine blk_drew ?_ | refine blk_alloc ?_ _)); refine blk_far ?_ NB322_346.out _; (with_reducible repeat (first | refine blk_drewN ?_ _ | refine blk_drew ?_ | refine blk_alloc ?_ _)); refine blk_far ?_ NB322_346.out _; (with_reducible repeat (first | refine blk_drewN ?_ _ | refine blk_drew ?_ | refine blk_alloc ?_ _)); refine blk_far ?_ NB322_346.out _; (with_reducible repeat (first | refine blk_drewN ?_ _ | refine blk_drew ?_ | refine blk_alloc ?_ _)); exact BK322.out⟩, ⟨by (with_reducible repeat (first | refine blk_drewN ?_ _ | refine blk_drew ?_ | refine blk_alloc ?_ _)); refine blk_put (cs := #[.int .i64 t343, .int .i64 t344, .int .i64 0]) ?_ 2 _ rfl; (with_reducible repeat (first | refine blk_drewN ?_ _ | refine blk_drew ?_ | refine blk_alloc ?_ _)); refine blk_put (cs := #[.int .i64 t343, .int .i64 0, .int .i64 0]) ?_ 1 _ rfl; (with_reducible repeat (first | refine blk_drewN ?_ _ | refine blk_drew ?_ | refine blk_alloc ?_ _)); refine blk_put (cs := #[.int .i64 0, .int .i64 0, .int .i64 0]) ?_ 0 _ rfl; (with_reducible repeat (first | refine blk_drewN ?_ _ | refine blk_drew ?_ | refine blk_alloc ?_ _)); exact BK346.out⟩, ⟨by repeat (first | (with_reducible first | exact HB.out | apply below_alloc | apply pw_below_drewN | apply below_drew1 | refine below_set ?_ GE322.out | refine below_set ?_ GE346.out) | exact HB.out)⟩⟩
              case rest =>
                clear HC51
                try clear c1
                try clear c2
                try clear p2
                try clear c3
                try clear p3
                try clear q3
                try clear hx3
                try clear qi3
                try clear c4
                try clear c5
                try clear c5b0
                try clear c5b1
                try clear c6
                try clear p6
                try clear c8
                try clear c8b0
                try clear c8b1
                try clear c13
                try clear c13b0
                try clear c14
                try clear c14b0
                try clear c15
                try clear c15b0
                try clear c16
                try clear c16b0
                try clear c17
                try clear c17b0
                try clear c18
                try clear c18b0
                try clear c18b1
                try clear c18b2
                try clear c19
                try clear c19b0
                try clear c20
                try clear c20b0
                try clear c20b1
                try clear c22
                try clear c22b0
                try clear c22b1
                try clear c22b2
                try clear c28
                try clear c28b0
                try clear c28b1
                try clear c28b2
                try clear p32
                try clear q32
                try clear hx32
                try clear c33
                try clear c33b0
                try clear c33b1
                try clear p33
                try clear q33
                try clear hx33
                try clear qi33
                try clear c34
                try clear c34b0
                try clear c34b1
                try clear c34b2
                try clear c35
                try clear c35b0
                try clear c36
                try clear c36b0
                try clear c37
                try clear c37b0
                try clear c37b1
                try clear c39
                try clear c39b0
                try clear c39b1
                try clear c39b2
                try clear c45
                try clear c45b0
                try clear c45b1
                try clear c45b2
                try clear c55
                try clear c57
                try clear c57b0
                try clear c57b1
                try clear c58
                try clear c61
                try clear hcz12_0
                try clear hcz12_1
                try clear hcz12_2
                try clear hcz56_0
                try clear hcz56_1
                try clear hcz56_2
                try clear hcz59_0
                try clear hcz59_1
                try clear hcz59_2
                try clear hcz62_0
                try clear hcz62_1
                try clear hcz62_2
                try clear hfz12_0
                try clear hfz12_1
                try clear hfz12_2
                try clear hfz56_0
                try clear hfz56_1
                try clear hfz56_2
                try clear hfz59_0
                try clear hfz59_1
                try clear hfz59_2
                try clear hfz62_0
                try clear hfz62_1
                try clear hfz62_2
                try clear hx323_0
                try clear hx327_0
                try clear hx328_0
                try clear hx328_1
                try clear hx328_2
                try clear hx328_3
                try clear hx329_0
                try clear hx329_1
                try clear hx329_2
                try clear hx329_3
                try clear hx331_0
                try clear hx331_1
                try clear hx331_2
                try clear hx331_3
                try clear hx335_0
                try clear hx336_0
                try clear hx336_1
                try clear hx336_2
                try clear hx336_3
                try clear hx337_0
                try clear hx337_1
                try clear hx337_2
                try clear hx337_3
                try clear hx339_0
                try clear hx339_1
                try clear hx339_2
                try clear hx339_3
                try clear p2
                try clear p323
                try clear p327
                try clear p328
                try clear p329
                try clear p331
                try clear p335
                try clear p336
                try clear p337
                try clear p339
                try clear q323
                try clear q327
                try clear q328
                try clear q329
                try clear q331
                try clear q335
                try clear q336
                try clear q337
                try clear q339
                obtain ⟨kq, x83_50, rfl, HA, HJ50, HO_5, HO_10, BK322, BK346, HB⟩ := hcut
                cases kq with
                | zero => exact absurd HA.out (by simp [primerlaw04_LexBlank.j1])
                | succ kj50 =>
                  have H := HA.out
                  clear HA
                  simp only [primerlaw04_LexBlank.j1] at H
                  by_cases c63 : x83_50 = true
                  · subst c63
                    have H1 : (some false) = some r := by rw [if_pos rfl] at H; exact H
                    clear H
                    have H := H1
                    clear H1
                    obtain rfl := Option.some.inj H
                    go_wp2
                    repeat (go_quiet (fail); try go_wp2)
                    go_ret
                    exact ⟨by first | rfl | (simp [errW_none, errW_some] <;> rfl) | (simp [*, errW_none, errW_some] <;> rfl), by repeat (first | (with_reducible first | exact HB.out | apply below_alloc | apply pw_below_drewN | apply below_drew1 | refine below_set ?_ GE322.out | refine below_set ?_ GE346.out) | exact HB.out)⟩
                  · replace c63 := Bool.eq_false_iff.mpr c63
                    subst c63
                    have H1 : (primerlaw04_LexBlank.l1 kj50 t316 t340 0) = some r := by rw [if_neg (show ¬ (false = true) by decide)] at H; exact H
                    clear H
                    have H := H1
                    clear H1
                    have H' := Aside0.mk H
                    clear H
                    go_wp2
                    repeat (go_quiet (fail); try go_wp2)
                    go_loopg [12] kj50 (fun kq v12 w' => ∃ (x12_3 : Int), v12 = .int .i64 x12_3 ∧ Aside0 (primerlaw04_LexBlank.l1 kq t316 t340 x12_3 = some r) ∧ Aside0 (kq ≤ kj50) ∧ Aside0 (Kd.R k31 31 w' w.heap.size (fun k_ => some k_ ≠ (v341 : Value).ownBlock) (.slice Ao52 t316.length co52) t316) ∧ Aside0 (Kd.R k31 31 w' w.heap.size (fun k_ => some k_ ≠ ((.slice Ao52 t316.length co52) : Value).ownBlock) v341 t340) ∧ Aside0 (w'.heap[gb322]? = some (.cells #[.int .i64 t319, .int .i64 t320, .int .i64 t321] 27 (0, 0))) ∧ Aside0 (w'.heap[gb346]? = some (.cells #[.int .i64 t343, .int .i64 t344, .int .i64 t345] 27 (0, 0))) ∧ Aside0 (Below w.heap.size w w'))
                    case atStart => exact ⟨(0), (by first | rfl | (simp; done) | (simp [*]; done)), H', ⟨Nat.le_refl _⟩, ⟨by (with_reducible repeat (first | apply Kd.R_alloc | apply Kd.R_drewN | apply Kd.R_drew)); exact HO_5.out⟩, ⟨by (with_reducible repeat (first | apply Kd.R_alloc | apply Kd.R_drewN | apply Kd.R_drew)); exact HO_10.out⟩, ⟨by (with_reducible repeat (first | refine blk_drewN ?_ _ | refine blk_drew ?_ | refine blk_alloc ?_ _)); exact BK322.out⟩, ⟨by (with_reducible repeat (first | refine blk_drewN ?_ _ | refine blk_drew ?_ | refine blk_alloc ?_ _)); exact BK346.out⟩, ⟨by repeat (first | (with_reducible first | exact HB.out | apply below_alloc | apply pw_below_drewN | apply below_drew1 | refine below_set ?_ GE322.out | refine below_set ?_ GE346.out) | exact HB.out)⟩⟩
                    case round =>
                      clear H'
                      try clear c1
                      try clear c2
                      try clear p2
                      try clear c3
                      try clear p3
                      try clear q3
                      try clear hx3
                      try clear qi3
                      try clear c4
                      try clear c5
                      try clear c5b0
                      try clear c5b1
                      try clear c6
                      try clear p6
                      try clear c8
                      try clear c8b0
                      try clear c8b1
                      try clear c13
                      try clear c13b0
                      try clear c14
                      try clear c14b0
                      try clear c15
                      try clear c15b0
                      try clear c16
                      try clear c16b0
                      try clear c17
                      try clear c17b0
                      try clear c18
                      try clear c18b0
                      try clear c18b1
                      try clear c18b2
                      try clear c19
                      try clear c19b0
                      try clear c20
                      try clear c20b0
                      try clear c20b1
                      try clear c22
                      try clear c22b0
                      try clear c22b1
                      try clear c22b2
                      try clear c28
                      try clear c28b0
                      try clear c28b1
                      try clear c28b2
                      try clear p32
                      try clear q32
                      try clear hx32
                      try clear c33
                      try clear c33b0
                      try clear c33b1
                      try clear p33
                      try clear q33
                      try clear hx33
                      try clear qi33
                      try clear c34
                      try clear c34b0
                      try clear c34b1
                      try clear c34b2
                      try clear c35
                      try clear c35b0
                      try clear c36
                      try clear c36b0
                      try clear c37
                      try clear c37b0
                      try clear c37b1
                      try clear c39
                      try clear c39b0
                      try clear c39b1
                      try clear c39b2
                      try clear c45
                      try clear c45b0
                      try clear c45b1
                      try clear c45b2
                      try clear c55
                      try clear c57
                      try clear c57b0
                      try clear c57b1
                      try clear c58
                      try clear c61
                      try clear c63
                      try clear hcz12_0
                      try clear hcz12_1
                      try clear hcz12_2
                      try clear hcz56_0
                      try clear hcz56_1
                      try clear hcz56_2
                      try clear hcz59_0
                      try clear hcz59_1
                      try clear hcz59_2
                      try clear hcz62_0
                      try clear hcz62_1
                      try clear hcz62_2
                      try clear hfz12_0
                      try clear hfz12_1
                      try clear hfz12_2
                      try clear hfz56_0
                      try clear hfz56_1
                      try clear hfz56_2
                      try clear hfz59_0
                      try clear hfz59_1
                      try clear hfz59_2
                      try clear hfz62_0
                      try clear hfz62_1
                      try clear hfz62_2
                      try clear hx323_0
                      try clear hx327_0
                      try clear hx328_0
                      try clear hx328_1
                      try clear hx328_2
                      try clear hx328_3
                      try clear hx329_0
                      try clear hx329_1
                      try clear hx329_2
                      try clear hx329_3
                      try clear hx331_0
                      try clear hx331_1
                      try clear hx331_2
                      try clear hx331_3
                      try clear hx335_0
                      try clear hx336_0
                      try clear hx336_1
                      try clear hx336_2
                      try clear hx336_3
                      try clear hx337_0
                      try clear hx337_1
                      try clear hx337_2
                      try clear hx337_3
                      try clear hx339_0
                      try clear hx339_1
                      try clear hx339_2
                      try clear hx339_3
                      try clear p2
                      try clear p3
                      try clear p32
                      try clear p323
                      try clear p327
                      try clear p328
                      try clear p329
                      try clear p33
                      try clear p331
                      try clear p335
                      try clear p336
                      try clear p337
                      try clear p339
                      try clear p6
                      try clear q3
                      try clear q32
                      try clear q323
                      try clear q327
                      try clear q328
                      try clear q329
                      try clear q33
                      try clear q331
                      try clear q335
                      try clear q336
                      try clear q337
                      try clear q339
                      obtain ⟨x12_3, rfl, HA, HK3, HO_5, HO_10, BK322, BK346, HB⟩ := hrel
                      cases gk with
                      | zero => exact absurd HA.out (by simp [primerlaw04_LexBlank.l1])
                      | succ k3 =>
                        have H := HA.out
                        clear HA
                        simp only [primerlaw04_LexBlank.l1] at H
                        by_cases c64 : x12_3 < (t340.length : Int)
                        · rw [if_pos c64] at H
                          have c64b0 : decide (x12_3 < (t340.length : Int)) = true := decide_eq_true c64
                          clear c64
                          by_cases c65 : 0 ≤ x12_3
                          · rw [if_pos c65] at H
                            have c65b0 : decide (0 ≤ x12_3) = true := decide_eq_true c65
                            clear c65
                            by_cases c66 : x12_3 < (t316.length : Int)
                            · rw [if_pos c66] at H
                              have c66b0 : decide (x12_3 < (t316.length : Int)) = true := decide_eq_true c66
                              clear c66
                              by_cases c67 : ((rd_T31 t340 x12_3).f0) = ((rd_T31 t316 x12_3).f0)
                              · rw [if_pos c67] at H
                                have c67b0 : (((rd_T31 t340 x12_3).f0) == ((rd_T31 t316 x12_3).f0)) = true := beq_iff_eq.mpr c67
                                have c67b1 : (((rd_T31 t340 x12_3).f0) != ((rd_T31 t316 x12_3).f0)) = false := bne_eq_false_iff_eq.mpr c67
                                clear c67
                                by_cases c68 : ((rd_T31 t340 x12_3).f1).toList = ((rd_T31 t316 x12_3).f1).toList
                                · rw [if_pos c68] at H
                                  have c68b0 : (((rd_T31 t340 x12_3).f1).toList == ((rd_T31 t316 x12_3).f1).toList) = true := beq_iff_eq.mpr c68
                                  have c68b1 : (((rd_T31 t340 x12_3).f1).toList != ((rd_T31 t316 x12_3).f1).toList) = false := bne_eq_false_iff_eq.mpr c68
                                  clear c68
                                  have H' := Aside0.mk H
                                  clear H
                                  obtain ⟨Ao69, co69, eo69⟩ := Kd.R_slice HO_10.out
                                  subst eo69
                                  have p347 : 0 ≤ (x12_3 : Int) := of_decide_eq_true (by first | (with_reducible assumption) | assumption)
                                  have q347 : x12_3 < (t340.length : Int) := of_decide_eq_true (by first | (with_reducible assumption) | assumption)
                                  obtain ⟨ad347, e347, hx347_0, hx347_1, hx347_2, hx347_3⟩ := at_T31 (Kd.R_reads' HO_10.out).2.2 x12_3 p347 q347
                                  cases e347
                                  replace p347 := eq_true p347
                                  replace q347 := eq_true q347
                                  have p348 : 0 ≤ (x12_3 : Int) := of_decide_eq_true (by first | (with_reducible assumption) | assumption)
                                  have q348 : x12_3 < (t316.length : Int) := of_decide_eq_true (by first | (with_reducible assumption) | assumption)
                                  obtain ⟨ad348, e348, hx348_0, hx348_1, hx348_2, hx348_3⟩ := at_T31 (Kd.R_reads' HO_5.out).2.2 x12_3 p348 q348
                                  cases e348
                                  replace p348 := eq_true p348
                                  replace q348 := eq_true q348
                                  have p349 : 0 ≤ (x12_3 : Int) := of_decide_eq_true (by first | (with_reducible assumption) | assumption)
                                  have q349 : x12_3 < (t340.length : Int) := of_decide_eq_true (by first | (with_reducible assumption) | assumption)
                                  obtain ⟨ad349, e349, hx349_0, hx349_1, hx349_2, hx349_3⟩ := at_T31 (Kd.R_reads' HO_10.out).2.2 x12_3 p349 q349
                                  obtain rfl : ad347 = ad349 := (by injection e349)
                                  replace p349 := eq_true p349
                                  replace q349 := eq_true q349
                                  have p350 : 0 ≤ (x12_3 : Int) := of_decide_eq_true (by first | (with_reducible assumption) | assumption)
                                  have q350 : x12_3 < (t316.length : Int) := of_decide_eq_true (by first | (with_reducible assumption) | assumption)
                                  obtain ⟨ad350, e350, hx350_0, hx350_1, hx350_2, hx350_3⟩ := at_T31 (Kd.R_reads' HO_5.out).2.2 x12_3 p350 q350
                                  obtain rfl : ad348 = ad350 := (by injection e350)
                                  replace p350 := eq_true p350
                                  replace q350 := eq_true q350
                                  go_wp2
                                  repeat (go_quiet (fail); try go_wp2)
                                  go_roundg k3
                                  case measure => have := HK1.out; have := HJ50.out; have := HK3.out; omega
                                  case rel => exact ⟨(wrap64 (x12_3 + 1)), (by first | rfl | (simp; done) | (simp [*]; done)), H', ⟨by have := HK1.out; have := HJ50.out; have := HK3.out; omega⟩, ⟨by (with_reducible repeat (first | apply Kd.R_alloc | apply Kd.R_drewN | apply Kd.R_drew)); exact HO_5.out⟩, ⟨by (with_reducible repeat (first | apply Kd.R_alloc | apply Kd.R_drewN | apply Kd.R_drew)); exact HO_10.out⟩, ⟨by (with_reducible repeat (first | refine blk_drewN ?_ _ | refine blk_drew ?_ | refine blk_alloc ?_ _)); exact BK322.out⟩, ⟨by (with_reducible repeat (first | refine blk_drewN ?_ _ | refine blk_drew ?_ | refine blk_alloc ?_ _)); exact BK346.out⟩, ⟨by repeat (first | (with_reducible first | exact HB.out | apply below_alloc | apply pw_below_drewN | apply below_drew1 | refine below_set ?_ GE322.out | refine below_set ?_ GE346.out) | exact HB.out)⟩⟩
                                · rw [if_neg c68] at H
                                  have c68b0 : (((rd_T31 t340 x12_3).f1).toList == ((rd_T31 t316 x12_3).f1).toList) = false := beq_eq_false_iff_ne.mpr c68
                                  have c68b1 : (((rd_T31 t340 x12_3).f1).toList != ((rd_T31 t316 x12_3).f1).toList) = true := bne_iff_ne.mpr c68
                                  obtain rfl := Option.some.inj H
                                  obtain ⟨Ao70, co70, eo70⟩ := Kd.R_slice HO_10.out
                                  subst eo70
                                  have p347 : 0 ≤ (x12_3 : Int) := of_decide_eq_true (by first | (with_reducible assumption) | assumption)
                                  have q347 : x12_3 < (t340.length : Int) := of_decide_eq_true (by first | (with_reducible assumption) | assumption)
                                  obtain ⟨ad347, e347, hx347_0, hx347_1, hx347_2, hx347_3⟩ := at_T31 (Kd.R_reads' HO_10.out).2.2 x12_3 p347 q347
                                  cases e347
                                  replace p347 := eq_true p347
                                  replace q347 := eq_true q347
                                  have p348 : 0 ≤ (x12_3 : Int) := of_decide_eq_true (by first | (with_reducible assumption) | assumption)
                                  have q348 : x12_3 < (t316.length : Int) := of_decide_eq_true (by first | (with_reducible assumption) | assumption)
                                  obtain ⟨ad348, e348, hx348_0, hx348_1, hx348_2, hx348_3⟩ := at_T31 (Kd.R_reads' HO_5.out).2.2 x12_3 p348 q348
                                  cases e348
                                  replace p348 := eq_true p348
                                  replace q348 := eq_true q348
                                  have p349 : 0 ≤ (x12_3 : Int) := of_decide_eq_true (by first | (with_reducible assumption) | assumption)
                                  have q349 : x12_3 < (t340.length : Int) := of_decide_eq_true (by first | (with_reducible assumption) | assumption)
                                  obtain ⟨ad349, e349, hx349_0, hx349_1, hx349_2, hx349_3⟩ := at_T31 (Kd.R_reads' HO_10.out).2.2 x12_3 p349 q349
                                  obtain rfl : ad347 = ad349 := (by injection e349)
                                  replace p349 := eq_true p349
                                  replace q349 := eq_true q349
                                  have p350 : 0 ≤ (x12_3 : Int) := of_decide_eq_true (by first | (with_reducible assumption) | assumption)
                                  have q350 : x12_3 < (t316.length : Int) := of_decide_eq_true (by first | (with_reducible assumption) | assumption)
                                  obtain ⟨ad350, e350, hx350_0, hx350_1, hx350_2, hx350_3⟩ := at_T31 (Kd.R_reads' HO_5.out).2.2 x12_3 p350 q350
                                  obtain rfl : ad348 = ad350 := (by injection e350)
                                  replace p350 := eq_true p350
                                  replace q350 := eq_true q350
                                  go_wp2
                                  repeat (go_quiet (fail); try go_wp2)
                                  go_ret
                                  exact ⟨by first | rfl | (simp [errW_none, errW_some] <;> rfl) | (simp [*, errW_none, errW_some] <;> rfl), by repeat (first | (with_reducible first | exact HB.out | apply below_alloc | apply pw_below_drewN | apply below_drew1 | refine below_set ?_ GE322.out | refine below_set ?_ GE346.out) | exact HB.out)⟩
                              · rw [if_neg c67] at H
                                have c67b0 : (((rd_T31 t340 x12_3).f0) == ((rd_T31 t316 x12_3).f0)) = false := beq_eq_false_iff_ne.mpr c67
                                have c67b1 : (((rd_T31 t340 x12_3).f0) != ((rd_T31 t316 x12_3).f0)) = true := bne_iff_ne.mpr c67
                                obtain rfl := Option.some.inj H
                                obtain ⟨Ao71, co71, eo71⟩ := Kd.R_slice HO_10.out
                                subst eo71
                                have p347 : 0 ≤ (x12_3 : Int) := of_decide_eq_true (by first | (with_reducible assumption) | assumption)
                                have q347 : x12_3 < (t340.length : Int) := of_decide_eq_true (by first | (with_reducible assumption) | assumption)
                                obtain ⟨ad347, e347, hx347_0, hx347_1, hx347_2, hx347_3⟩ := at_T31 (Kd.R_reads' HO_10.out).2.2 x12_3 p347 q347
                                cases e347
                                replace p347 := eq_true p347
                                replace q347 := eq_true q347
                                have p348 : 0 ≤ (x12_3 : Int) := of_decide_eq_true (by first | (with_reducible assumption) | assumption)
                                have q348 : x12_3 < (t316.length : Int) := of_decide_eq_true (by first | (with_reducible assumption) | assumption)
                                obtain ⟨ad348, e348, hx348_0, hx348_1, hx348_2, hx348_3⟩ := at_T31 (Kd.R_reads' HO_5.out).2.2 x12_3 p348 q348
                                cases e348
                                replace p348 := eq_true p348
                                replace q348 := eq_true q348
                                go_wp2
                                repeat (go_quiet (fail); try go_wp2)
                                go_ret
                                exact ⟨by first | rfl | (simp [errW_none, errW_some] <;> rfl) | (simp [*, errW_none, errW_some] <;> rfl), by repeat (first | (with_reducible first | exact HB.out | apply below_alloc | apply pw_below_drewN | apply below_drew1 | refine below_set ?_ GE322.out | refine below_set ?_ GE346.out) | exact HB.out)⟩
                            · rw [if_neg c66] at H
                              exact absurd H (by simp)
                          · rw [if_neg c65] at H
                            exact absurd H (by simp)
                        · rw [if_neg c64] at H
                          have c64b0 : decide (x12_3 < (t340.length : Int)) = false := decide_eq_false c64
                          clear c64
                          obtain rfl := Option.some.inj H
                          obtain ⟨Ao72, co72, eo72⟩ := Kd.R_slice HO_10.out
                          subst eo72
                          go_wp2
                          repeat (go_quiet (fail); try go_wp2)
                          go_ret
                          exact ⟨by first | rfl | (simp [errW_none, errW_some] <;> rfl) | (simp [*, errW_none, errW_some] <;> rfl), by repeat (first | (with_reducible first | exact HB.out | apply below_alloc | apply pw_below_drewN | apply below_drew1 | refine below_set ?_ GE322.out | refine below_set ?_ GE346.out) | exact HB.out)⟩
      · rw [if_neg c8] at H
        have c8b0 : (t321 == 0) = false := beq_eq_false_iff_ne.mpr c8
        have c8b1 : (t321 != 0) = true := bne_iff_ne.mpr c8
        obtain rfl := Option.some.inj H
        go_enter Try.func8, Try.ntmps8
        go_wp2_with (first | (go_at_call 9; (with_reducible refine (primerlaw04_speaks.calls  true _ A3.out).mono ?_); rintro e w73 ⟨rfl, hb⟩; have n0_ := Aside0.mk (below_step (by repeat (first | (with_reducible first | exact HB.out | apply below_alloc | apply pw_below_drewN | apply below_drew1) | exact HB.out)) hb); clear HB; have HB := n0_; clear n0_; (try clear hb); (try clear hb2); (try clear hk); (try clear hi)) | (go_at_call 11; (with_reducible refine (lex_Scan.calls a0 t316 t319 t320 t321 _ A7.out).mono ?_); rintro e w74 ⟨v317, rfl, ho0, hb⟩; have n0_ := Aside0.mk (Kd.R_lower ho0 (below_size (by repeat (first | (with_reducible first | exact HB.out | apply below_alloc | apply pw_below_drewN | apply below_drew1) | exact HB.out)))); have n1_ := Aside0.mk (below_step (by repeat (first | (with_reducible first | exact HB.out | apply below_alloc | apply pw_below_drewN | apply below_drew1) | exact HB.out)) hb); clear HB; have HO318 := n0_; have HB := n1_; clear n0_ n1_; (try clear hb); (try clear hb2); (try clear hk); (try clear hi); (try clear ho0)) | ((with_reducible refine gate_dst (N := 6) rfl ?_); (try (refine gate_guard (by rfl) ?_; dsimp only)); refine box_event ?hg (N := 6) ?hd (cs := #[.int .i64 0, .int .i64 0, .int .i64 0]) (t := 27) ?hr ?_; (case hd => rfl); (case hg => rfl); (case hr => first | (go_simp; done) | (go_simp; rfl)); intro gb322 hg w75 hbox hb; have n0_ := Aside0.mk (Kd.R_below (by (with_reducible repeat (first | apply Kd.R_alloc | apply Kd.R_drewN | apply Kd.R_drew)); exact HO318.out) hb); have n1_ := Aside0.mk (below_step (by repeat (first | (with_reducible first | exact HB.out | apply below_alloc | apply pw_below_drewN | apply below_drew1) | exact HB.out)) hb); have n2_ := Aside0.mk (hbox); have n3_ := Aside0.mk ((by rw [hg]; exact (below_size (by repeat (first | (with_reducible first | exact HB.out | apply below_alloc | apply pw_below_drewN | apply below_drew1) | exact HB.out))) : w.heap.size ≤ gb322)); have n4_ := Aside0.mk ((by rw [hg]; exact (below_size (by repeat (first | (with_reducible first | exact HB.out | apply below_alloc | apply pw_below_drewN | apply below_drew1) | exact HB.out))) : w.heap.size ≤ gb322)); clear HO318; clear HB; have HO318 := n0_; have HB := n1_; have BK322 := n2_; have GW322 := n3_; have GE322 := n4_; clear n0_ n1_ n2_ n3_ n4_; clear hb hbox hg; have hcz76_0 : w75.cell? ⟨gb322, 0, none⟩ = some (.int .i64 0) := (blk_cell BK322.out 0).trans rfl; have hcz76_1 : w75.cell? ⟨gb322, 1, none⟩ = some (.int .i64 0) := (blk_cell BK322.out 1).trans rfl; have hcz76_2 : w75.cell? ⟨gb322, 2, none⟩ = some (.int .i64 0) := (blk_cell BK322.out 2).trans rfl; have hfz76_0 := blk_frozen BK322.out 0; have hfz76_1 := blk_frozen BK322.out 1; have hfz76_2 := blk_frozen BK322.out 2))
        repeat (go_quiet (first | (go_at_call 9; (with_reducible refine (primerlaw04_speaks.calls  true _ A3.out).mono ?_); rintro e w73 ⟨rfl, hb⟩; have n0_ := Aside0.mk (below_step (by repeat (first | (with_reducible first | exact HB.out | apply below_alloc | apply pw_below_drewN | apply below_drew1) | exact HB.out)) hb); clear HB; have HB := n0_; clear n0_; (try clear hb); (try clear hb2); (try clear hk); (try clear hi)) | (go_at_call 11; (with_reducible refine (lex_Scan.calls a0 t316 t319 t320 t321 _ A7.out).mono ?_); rintro e w74 ⟨v317, rfl, ho0, hb⟩; have n0_ := Aside0.mk (Kd.R_lower ho0 (below_size (by repeat (first | (with_reducible first | exact HB.out | apply below_alloc | apply pw_below_drewN | apply below_drew1) | exact HB.out)))); have n1_ := Aside0.mk (below_step (by repeat (first | (with_reducible first | exact HB.out | apply below_alloc | apply pw_below_drewN | apply below_drew1) | exact HB.out)) hb); clear HB; have HO318 := n0_; have HB := n1_; clear n0_ n1_; (try clear hb); (try clear hb2); (try clear hk); (try clear hi); (try clear ho0)) | ((with_reducible refine gate_dst (N := 6) rfl ?_); (try (refine gate_guard (by rfl) ?_; dsimp only)); refine box_event ?hg (N := 6) ?hd (cs := #[.int .i64 0, .int .i64 0, .int .i64 0]) (t := 27) ?hr ?_; (case hd => rfl); (case hg => rfl); (case hr => first | (go_simp; done) | (go_simp; rfl)); intro gb322 hg w75 hbox hb; have n0_ := Aside0.mk (Kd.R_below (by (with_reducible repeat (first | apply Kd.R_alloc | apply Kd.R_drewN | apply Kd.R_drew)); exact HO318.out) hb); have n1_ := Aside0.mk (below_step (by repeat (first | (with_reducible first | exact HB.out | apply below_alloc | apply pw_below_drewN | apply below_drew1) | exact HB.out)) hb); have n2_ := Aside0.mk (hbox); have n3_ := Aside0.mk ((by rw [hg]; exact (below_size (by repeat (first | (with_reducible first | exact HB.out | apply below_alloc | apply pw_below_drewN | apply below_drew1) | exact HB.out))) : w.heap.size ≤ gb322)); have n4_ := Aside0.mk ((by rw [hg]; exact (below_size (by repeat (first | (with_reducible first | exact HB.out | apply below_alloc | apply pw_below_drewN | apply below_drew1) | exact HB.out))) : w.heap.size ≤ gb322)); clear HO318; clear HB; have HO318 := n0_; have HB := n1_; have BK322 := n2_; have GW322 := n3_; have GE322 := n4_; clear n0_ n1_ n2_ n3_ n4_; clear hb hbox hg; have hcz76_0 : w75.cell? ⟨gb322, 0, none⟩ = some (.int .i64 0) := (blk_cell BK322.out 0).trans rfl; have hcz76_1 : w75.cell? ⟨gb322, 1, none⟩ = some (.int .i64 0) := (blk_cell BK322.out 1).trans rfl; have hcz76_2 : w75.cell? ⟨gb322, 2, none⟩ = some (.int .i64 0) := (blk_cell BK322.out 2).trans rfl; have hfz76_0 := blk_frozen BK322.out 0; have hfz76_1 := blk_frozen BK322.out 1; have hfz76_2 := blk_frozen BK322.out 2)); try go_wp2_with (first | (go_at_call 9; (with_reducible refine (primerlaw04_speaks.calls  true _ A3.out).mono ?_); rintro e w73 ⟨rfl, hb⟩; have n0_ := Aside0.mk (below_step (by repeat (first | (with_reducible first | exact HB.out | apply below_alloc | apply pw_below_drewN | apply below_drew1) | exact HB.out)) hb); clear HB; have HB := n0_; clear n0_; (try clear hb); (try clear hb2); (try clear hk); (try clear hi)) | (go_at_call 11; (with_reducible refine (lex_Scan.calls a0 t316 t319 t320 t321 _ A7.out).mono ?_); rintro e w74 ⟨v317, rfl, ho0, hb⟩; have n0_ := Aside0.mk (Kd.R_lower ho0 (below_size (by repeat (first | (with_reducible first | exact HB.out | apply below_alloc | apply pw_below_drewN | apply below_drew1) | exact HB.out)))); have n1_ := Aside0.mk (below_step (by repeat (first | (with_reducible first | exact HB.out | apply below_alloc | apply pw_below_drewN | apply below_drew1) | exact HB.out)) hb); clear HB; have HO318 := n0_; have HB := n1_; clear n0_ n1_; (try clear hb); (try clear hb2); (try clear hk); (try clear hi); (try clear ho0)) | ((with_reducible refine gate_dst (N := 6) rfl ?_); (try (refine gate_guard (by rfl) ?_; dsimp only)); refine box_event ?hg (N := 6) ?hd (cs := #[.int .i64 0, .int .i64 0, .int .i64 0]) (t := 27) ?hr ?_; (case hd => rfl); (case hg => rfl); (case hr => first | (go_simp; done) | (go_simp; rfl)); intro gb322 hg w75 hbox hb; have n0_ := Aside0.mk (Kd.R_below (by (with_reducible repeat (first | apply Kd.R_alloc | apply Kd.R_drewN | apply Kd.R_drew)); exact HO318.out) hb); have n1_ := Aside0.mk (below_step (by repeat (first | (with_reducible first | exact HB.out | apply below_alloc | apply pw_below_drewN | apply below_drew1) | exact HB.out)) hb); have n2_ := Aside0.mk (hbox); have n3_ := Aside0.mk ((by rw [hg]; exact (below_size (by repeat (first | (with_reducible first | exact HB.out | apply below_alloc | apply pw_below_drewN | apply below_drew1) | exact HB.out))) : w.heap.size ≤ gb322)); have n4_ := Aside0.mk ((by rw [hg]; exact (below_size (by repeat (first | (with_reducible first | exact HB.out | apply below_alloc | apply pw_below_drewN | apply below_drew1) | exact HB.out))) : w.heap.size ≤ gb322)); clear HO318; clear HB; have HO318 := n0_; have HB := n1_; have BK322 := n2_; have GW322 := n3_; have GE322 := n4_; clear n0_ n1_ n2_ n3_ n4_; clear hb hbox hg; have hcz76_0 : w75.cell? ⟨gb322, 0, none⟩ = some (.int .i64 0) := (blk_cell BK322.out 0).trans rfl; have hcz76_1 : w75.cell? ⟨gb322, 1, none⟩ = some (.int .i64 0) := (blk_cell BK322.out 1).trans rfl; have hcz76_2 : w75.cell? ⟨gb322, 2, none⟩ = some (.int .i64 0) := (blk_cell BK322.out 2).trans rfl; have hfz76_0 := blk_frozen BK322.out 0; have hfz76_1 := blk_frozen BK322.out 1; have hfz76_2 := blk_frozen BK322.out 2)))
        go_ret
        exact ⟨by first | rfl | (simp [errW_none, errW_some] <;> rfl) | (simp [*, errW_none, errW_some] <;> rfl), by repeat (first | (with_reducible first | exact HB.out | apply below_alloc | apply pw_below_drewN | apply below_drew1 | refine below_set ?_ GE322.out) | exact HB.out)⟩
  · replace c4 := Bool.eq_false_iff.mpr c4
    subst c4
    have H1 : (some false) = some r := by rw [if_neg (show ¬ (false = true) by decide)] at H; exact H
    clear H
    have H := H1
    clear H1
    obtain rfl := Option.some.inj H
    go_enter Try.func8, Try.ntmps8
    go_wp2_with (first | (go_at_call 9; (with_reducible refine (primerlaw04_speaks.calls  false _ A3.out).mono ?_); rintro e w77 ⟨rfl, hb⟩; have n0_ := Aside0.mk (below_step (by repeat (first | (with_reducible first | exact HB.out | apply below_alloc | apply pw_below_drewN | apply below_drew1) | exact HB.out)) hb); clear HB; have HB := n0_; clear n0_; (try clear hb); (try clear hb2); (try clear hk); (try clear hi)))
    repeat (go_quiet (first | (go_at_call 9; (with_reducible refine (primerlaw04_speaks.calls  false _ A3.out).mono ?_); rintro e w77 ⟨rfl, hb⟩; have n0_ := Aside0.mk (below_step (by repeat (first | (with_reducible first | exact HB.out | apply below_alloc | apply pw_below_drewN | apply below_drew1) | exact HB.out)) hb); clear HB; have HB := n0_; clear n0_; (try clear hb); (try clear hb2); (try clear hk); (try clear hi))); try go_wp2_with (first | (go_at_call 9; (with_reducible refine (primerlaw04_speaks.calls  false _ A3.out).mono ?_); rintro e w77 ⟨rfl, hb⟩; have n0_ := Aside0.mk (below_step (by repeat (first | (with_reducible first | exact HB.out | apply below_alloc | apply pw_below_drewN | apply below_drew1) | exact HB.out)) hb); clear HB; have HB := n0_; clear n0_; (try clear hb); (try clear hb2); (try clear hk); (try clear hi))))
    go_ret
    exact ⟨by first | rfl | (simp [errW_none, errW_some] <;> rfl) | (simp [*, errW_none, errW_some] <;> rfl), by repeat (first | (with_reducible first | exact HB.out | apply below_alloc | apply pw_below_drewN | apply below_drew1) | exact HB.out)⟩

/-- THE ONE PURE STATEMENT of primerlaw04_LexBlank: yours. -/
def primerlaw04_LexBlank.Pure : Prop := ∀ (a0 : ByteArray) (l1 : List Int), a0.size ≤ 140737488351232 → l1.length ≤ maxLen → l1.length * 8 ≤ 140737488351232 → (∀ x ∈ l1, (Lit.int .i64 x).wf = true) → ∃ k, primerlaw04_LexBlank.f k a0 l1 = some true
theorem primerlaw04_LexBlank.walk (P : primerlaw04_LexBlank.Pure) (a0 : ByteArray) (a1 : Option Addr) (len1 cap1 : Nat) (z1 : List Int) (w : World) (w0 : a0.size ≤ 140737488351232) (w1 : (a1 = none ∧ len1 = 0 ∧ cap1 = 0 ∧ z1 = []) ∨ ∃ x, a1 = some x ∧ len1 ≤ cap1 ∧ cap1 ≤ maxLen ∧ z1.length = cap1 ∧ (∀ i, i < z1.length → w.cell? (x.add i) = some (.int .i64 (z1.getD i 0))) ∧ ∀ n ∈ z1, (Lit.int .i64 n).wf = true) (y1 : len1 * 8 ≤ 140737488351232) :
    Calls Try.prog 8 #[.string a0, .slice a1 len1 cap1] w fun e w' => e = .returned (.bool true) ∧ Below w.heap.size w w' := by
  obtain ⟨l1, rfl, hr1, hm1, hw1, hc1⟩ := ReadsInt.ofRowC w1
  obtain ⟨k, h⟩ := P a0 l1 w0 hm1 y1 hw1
  refine (primerlaw04_LexBlank.calls k a0 _ _ l1 true w (Kd.C_of_reads (d := (0 : Int)) (h1 := fun _ => rfl) hr1) hc1 h).mono ?_
  rintro e w' ⟨rfl, hd⟩
  exact ⟨rfl, hd⟩

end Go.Proofs.Ytohbjgckcbdegaa.P
