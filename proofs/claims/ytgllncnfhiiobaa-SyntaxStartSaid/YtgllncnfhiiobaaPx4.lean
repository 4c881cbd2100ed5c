-- PRINTED by print.py (a twelfth state) out of the translation. Not trusted: Lean checks it.
import Derived.Test.YtgllncnfhiiobaaPx0
import Derived.Test.YtgllncnfhiiobaaPx3
import Derived.Test.YtgllncnfhiiobaaSynSp
namespace Go.Proofs.Ytgllncnfhiiobaa.P
open Go.RowKit Go.Proofs.YtgllncnfhiiobaaW.PrintWords Go.Proofs.YtgllncnfhiiobaaW.PrintLast Go.Proofs.YtgllncnfhiiobaaW.PrintMore
attribute [local go_sem] max2_int min2_int max_two min_two max_three min_three max_four min_four   -- for this text's walks alone
set_option linter.unusedVariables false
set_option linter.unusedSimpArgs false

/-! ### primerlaw05_SyntaxStart: function 6 -/
mutual
def primerlaw05_SyntaxStart.j0 : Nat → ByteArray → ByteArray → Bool → Option (Bool)
  | 0, _, _, _ => none
  | k + 1, x0, x1, x17 => if x17 = true then (some false) else (if (x1.size : Int) > 500 then (primerlaw05_SyntaxStart.j1 k x0 x1 true) else (primerlaw05_SyntaxStart.j1 k x0 x1 (decide ((x0.size : Int) > 100))))
def primerlaw05_SyntaxStart.j1 : Nat → ByteArray → ByteArray → Bool → Option (Bool)
  | 0, _, _, _ => none
  | k + 1, x0, x1, x25 => if x25 = true then (some true) else ((syntax_Parse.f x1).bind fun bt146 => ((lex_Scan.f x1).bind fun bt155 => (if bt146.2.2.2.2 = 0 then (if 0 < (bt155.1.length : Int) then (if ((rd_T46 bt155.1 0).f1).toList = ([37] : List UInt8) then (primerlaw05_SyntaxStart.j2 k x0 x1 true bt146.1 bt146.2.1) else ((lex_Good.f k x0).bind fun t163 => (primerlaw05_SyntaxStart.j2 k x0 x1 (!t163) bt146.1 bt146.2.1))) else (none)) else (primerlaw05_SyntaxStart.j2 k x0 x1 true bt146.1 bt146.2.1))))
def primerlaw05_SyntaxStart.j2 : Nat → ByteArray → ByteArray → Bool → ByteArray → List (S51) → Option (Bool)
  | 0, _, _, _, _, _ => none
  | k + 1, x0, x1, x50, x154000, x154001 => if x50 = true then (some true) else (if 1 + x0.size ≤ 9223372036854775807 then (if ((⟨#[37]⟩ : ByteArray) ++ x0).size + 1 ≤ 9223372036854775807 then (if (((⟨#[37]⟩ : ByteArray) ++ x0) ++ (⟨#[59]⟩ : ByteArray)).size + x1.size ≤ 9223372036854775807 then ((syntax_Parse.f ((((⟨#[37]⟩ : ByteArray) ++ x0) ++ (⟨#[59]⟩ : ByteArray)) ++ x1)).bind fun bt164 => (if bt164.2.2.2.2 = 0 then ((syntax_Same.f x0 x154001 bt164.1 bt164.2.1).bind fun t173 => (some t173)) else (some false))) else (none)) else (none)) else (none))
end
def primerlaw05_SyntaxStart.f (k : Nat) (a0 : ByteArray) (a1 : ByteArray) : Option (Bool) := (primerlaw05_speaks.f).bind fun t144 => (if t144 = true then ((primerlaw05_good.f k a0).bind fun t145 => (primerlaw05_SyntaxStart.j0 k a0 a1 (!t145))) else (primerlaw05_SyntaxStart.j0 k a0 a1 true))
theorem primerlaw05_SyntaxStart.mono_l : ∀ k, (∀ y0 y1 y2, LeO (primerlaw05_SyntaxStart.j0 k y0 y1 y2) (primerlaw05_SyntaxStart.j0 (k + 1) y0 y1 y2)) ∧ (∀ y0 y1 y2, LeO (primerlaw05_SyntaxStart.j1 k y0 y1 y2) (primerlaw05_SyntaxStart.j1 (k + 1) y0 y1 y2)) ∧ (∀ y0 y1 y2 y3 y4, LeO (primerlaw05_SyntaxStart.j2 k y0 y1 y2 y3 y4) (primerlaw05_SyntaxStart.j2 (k + 1) y0 y1 y2 y3 y4))
  | 0 => ⟨fun _ _ _ r h => by simp [primerlaw05_SyntaxStart.j0] at h, fun _ _ _ r h => by simp [primerlaw05_SyntaxStart.j1] at h, fun _ _ _ _ _ r h => by simp [primerlaw05_SyntaxStart.j2] at h⟩
  | k + 1 => by
    obtain ⟨ih0, ih1, ih2⟩ := primerlaw05_SyntaxStart.mono_l k
    refine ⟨?_, ?_, ?_⟩
    · intro y0 y1 y2
      unfold primerlaw05_SyntaxStart.j0
      repeat' first
      | (with_reducible exact ih0 _ _ _)
      | (with_reducible exact ih1 _ _ _)
      | (with_reducible exact ih2 _ _ _ _ _)
      | (with_reducible exact lex_Good.mono _ _)
      | (with_reducible exact primerlaw05_good.mono _ _)
      | (with_reducible exact LeO.refl _)
      | (with_reducible exact LeO.none _)
      | (with_reducible refine LeO.ite ?_ ?_)
      | (with_reducible refine LeO.bind ?_ (fun _ => ?_))
      | exact ih0 _ _ _
      | exact ih1 _ _ _
      | exact ih2 _ _ _ _ _
      | exact lex_Good.mono _ _
      | exact primerlaw05_good.mono _ _
      | exact LeO.none _
      | refine LeO.ite ?_ ?_
      | refine LeO.bind ?_ (fun _ => ?_)
    · intro y0 y1 y2
      unfold primerlaw05_SyntaxStart.j1
      repeat' first
      | (with_reducible exact ih0 _ _ _)
      | (with_reducible exact ih1 _ _ _)
      | (with_reducible exact ih2 _ _ _ _ _)
      | (with_reducible exact lex_Good.mono _ _)
      | (with_reducible exact primerlaw05_good.mono _ _)
      | (with_reducible exact LeO.refl _)
      | (with_reducible exact LeO.none _)
      | (with_reducible refine LeO.ite ?_ ?_)
      | (with_reducible refine LeO.bind ?_ (fun _ => ?_))
      | exact ih0 _ _ _
      | exact ih1 _ _ _
      | exact ih2 _ _ _ _ _
      | exact lex_Good.mono _ _
      | exact primerlaw05_good.mono _ _
      | exact LeO.none _
      | refine LeO.ite ?_ ?_
      | refine LeO.bind ?_ (fun _ => ?_)
    · intro y0 y1 y2 y3 y4
      unfold primerlaw05_SyntaxStart.j2
      repeat' first
      | (with_reducible exact ih0 _ _ _)
      | (with_reducible exact ih1 _ _ _)
      | (with_reducible exact ih2 _ _ _ _ _)
      | (with_reducible exact lex_Good.mono _ _)
      | (with_reducible exact primerlaw05_good.mono _ _)
      | (with_reducible exact LeO.refl _)
      | (with_reducible exact LeO.none _)
      | (with_reducible refine LeO.ite ?_ ?_)
      | (with_reducible refine LeO.bind ?_ (fun _ => ?_))
      | exact ih0 _ _ _
      | exact ih1 _ _ _
      | exact ih2 _ _ _ _ _
      | exact lex_Good.mono _ _
      | exact primerlaw05_good.mono _ _
      | exact LeO.none _
      | refine LeO.ite ?_ ?_
      | refine LeO.bind ?_ (fun _ => ?_)
theorem primerlaw05_SyntaxStart.mono : ∀ a0 a1 k, LeO (primerlaw05_SyntaxStart.f k a0 a1) (primerlaw05_SyntaxStart.f (k + 1) a0 a1) := by
  intro a0 a1 k
  obtain ⟨ih0, ih1, ih2⟩ := primerlaw05_SyntaxStart.mono_l k
  unfold primerlaw05_SyntaxStart.f
  repeat' first
      | (with_reducible exact ih0 _ _ _)
      | (with_reducible exact ih1 _ _ _)
      | (with_reducible exact ih2 _ _ _ _ _)
      | (with_reducible exact lex_Good.mono _ _)
      | (with_reducible exact primerlaw05_good.mono _ _)
      | (with_reducible exact LeO.refl _)
      | (with_reducible exact LeO.none _)
      | (with_reducible refine LeO.ite ?_ ?_)
      | (with_reducible refine LeO.bind ?_ (fun _ => ?_))
      | exact ih0 _ _ _
      | exact ih1 _ _ _
      | exact ih2 _ _ _ _ _
      | exact lex_Good.mono _ _
      | exact primerlaw05_good.mono _ _
      | exact LeO.none _
      | refine LeO.ite ?_ ?_
      | refine LeO.bind ?_ (fun _ => ?_)
set_option maxHeartbeats 8000000 in
set_option maxRecDepth 100000 in
theorem primerlaw05_SyntaxStart.calls (k : Nat) (a0 : ByteArray) (a1 : ByteArray) (r : Bool) (w : World) (h : primerlaw05_SyntaxStart.f k a0 a1 = some r) :
    Calls Try.prog 6 #[.string a0, .string a1] w fun e w' => e = .returned (.bool r) ∧ Below w.heap.size w w' := by
  have hu25 := Try.underlying25
  have hu28 := Try.underlying28
  have HB := Aside0.mk (Below.refl w.heap.size w)
  have H : ((primerlaw05_speaks.f).bind fun t144 => (if t144 = true then ((primerlaw05_good.f k a0).bind fun t145 => (primerlaw05_SyntaxStart.j0 k a0 a1 (!t145))) else (primerlaw05_SyntaxStart.j0 k a0 a1 true))) = some r := h
  clear h
  have HC3 := Aside0.mk H
  clear H
  go_enter Try.func6, Try.ntmps6
  go_upto_region 1 with (fail)
  go_cut [17] (fun v17 wc => ∃ (kq : Nat) (x17_2 : Bool), v17 = .bool x17_2 ∧ Aside0 (primerlaw05_SyntaxStart.j0 kq a0 a1 x17_2 = some r) ∧ Aside0 (kq ≤ k) ∧ Aside0 (Below w.heap.size w wc))
  case first =>
    have H := HC3.out
    clear HC3
    replace H := Option.bind_eq_some_iff.mp H
    obtain ⟨t144, A40, H⟩ := H
    replace H : (if t144 = true then ((primerlaw05_good.f k a0).bind fun t145 => (primerlaw05_SyntaxStart.j0 k a0 a1 (!t145))) else (primerlaw05_SyntaxStart.j0 k a0 a1 true)) = some r := H
    have A4 := Aside0.mk A40
    clear A40
    by_cases c5 : t144 = true
    · subst c5
      have H1 : ((primerlaw05_good.f k a0).bind fun t145 => (primerlaw05_SyntaxStart.j0 k a0 a1 (!t145))) = some r := by rw [if_pos rfl] at H; exact H
      clear H
      have H := H1
      clear H1
      replace H := Option.bind_eq_some_iff.mp H
      obtain ⟨t145, A60, H⟩ := H
      replace H : (primerlaw05_SyntaxStart.j0 k a0 a1 (!t145)) = some r := H
      have A6 := Aside0.mk A60
      clear A60
      have H' := Aside0.mk H
      clear H
      go_wp2_with (first | ((with_reducible refine gate_callee (f := 7) rfl ?_); refine goesL_ (some 11) rfl rfl Try.func7 (by kernel_rfl) rfl #[] rfl (by (try simp only [List.map_toArray, List.map_cons, List.map_nil]); first | done | rfl | (simp only [List.length_drop, List.length_take]; rfl)) ?_; (with_reducible refine (primerlaw05_speaks.calls  true _ A4.out).mono ?_); rintro e w7 ⟨rfl, hb⟩; refine ⟨_, rfl, ?_⟩; have n0_ := Aside0.mk (below_step (by repeat (first | (with_reducible first | exact HB.out | apply below_alloc | apply pw_below_drewN | apply below_drew1) | exact HB.out)) hb); clear HB; have HB := n0_; clear n0_; (try clear hb); (try clear hb2); (try clear hk); (try clear hi)) | (go_at_call 15; (with_reducible refine (primerlaw05_good.calls k a0 t145 _ A6.out).mono ?_); rintro e w' ⟨rfl, ⟨nd, rfl⟩⟩))
      go_meet
      case rel => exact ⟨_, (!t145), (by first | rfl | (simp; done) | (simp [*]; done)), H', ⟨by first | omega | exact Nat.le_refl _⟩, ⟨by repeat (first | (with_reducible first | exact HB.out | apply below_alloc | apply pw_below_drewN | apply below_drew1) | exact HB.out)⟩⟩
    · replace c5 := Bool.eq_false_iff.mpr c5
      subst c5
      have H1 : (primerlaw05_SyntaxStart.j0 k a0 a1 true) = some r := by rw [if_neg (show ¬ (false = true) by decide)] at H; exact H
      clear H
      have H := H1
      clear H1
      have H' := Aside0.mk H
      clear H
      go_wp2_with (first | ((with_reducible refine gate_callee (f := 7) rfl ?_); refine goesL_ (some 11) rfl rfl Try.func7 (by kernel_rfl) rfl #[] rfl (by (try simp only [List.map_toArray, List.map_cons, List.map_nil]); first | done | rfl | (simp only [List.length_drop, List.length_take]; rfl)) ?_; (with_reducible refine (primerlaw05_speaks.calls  false _ A4.out).mono ?_); rintro e w8 ⟨rfl, hb⟩; refine ⟨_, rfl, ?_⟩; have n0_ := Aside0.mk (below_step (by repeat (first | (with_reducible first | exact HB.out | apply below_alloc | apply pw_below_drewN | apply below_drew1) | exact HB.out)) hb); clear HB; have HB := n0_; clear n0_; (try clear hb); (try clear hb2); (try clear hk); (try clear hi)))
      go_meet
      case rel => exact ⟨_, (true), (by first | rfl | (simp; done) | (simp [*]; done)), H', ⟨by first | omega | exact Nat.le_refl _⟩, ⟨by repeat (first | (with_reducible first | exact HB.out | apply below_alloc | apply pw_below_drewN | apply below_drew1) | exact HB.out)⟩⟩
  case rest =>
    clear HC3
    try clear p2
    try clear c5
    try clear c6
    try clear c7
    obtain ⟨kq, x17_2, rfl, HA, HJ2, HB⟩ := hcut
    cases kq with
    | zero => exact absurd HA.out (by simp [primerlaw05_SyntaxStart.j0])
    | succ kj2 =>
      have H := HA.out
      clear HA
      simp only [primerlaw05_SyntaxStart.j0] at H
      by_cases c9 : x17_2 = true
      · subst c9
        have H1 : (some false) = some r := by rw [if_pos rfl] at H; exact H
        clear H
        have H := H1
        clear H1
        obtain rfl := Option.some.inj H
        go_wp2
        go_ret
        exact ⟨by first | rfl | (simp [errW_none, errW_some] <;> rfl) | (simp [*, errW_none, errW_some] <;> rfl), by repeat (first | (with_reducible first | exact HB.out | apply below_alloc | apply pw_below_drewN | apply below_drew1) | exact HB.out)⟩
      · replace c9 := Bool.eq_false_iff.mpr c9
        subst c9
        have H1 : (if (a1.size : Int) > 500 then (primerlaw05_SyntaxStart.j1 kj2 a0 a1 true) else (primerlaw05_SyntaxStart.j1 kj2 a0 a1 (decide ((a0.size : Int) > 100)))) = some r := by rw [if_neg (show ¬ (false = true) by decide)] at H; exact H
        clear H
        have H := H1
        clear H1
        have HC10 := Aside0.mk H
        clear H
        go_upto_region 3 with (fail)
        go_cut [25] (fun v25 wc => ∃ (kq : Nat) (x25_9 : Bool), v25 = .bool x25_9 ∧ Aside0 (primerlaw05_SyntaxStart.j1 kq a0 a1 x25_9 = some r) ∧ Aside0 (kq ≤ kj2) ∧ Aside0 (Below w.heap.size w wc))
        case first =>
          have H := HC10.out
          clear HC10
          by_cases c11 : (a1.size : Int) > 500
          · rw [if_pos c11] at H
            have c11b0 : decide (500 < (a1.size : Int)) = true := decide_eq_true c11
            have c11b1 : decide (500 < a1.size) = true := decide_eq_true (by omega)
            clear c11
            (first | rw [c11b0] | (simp only [i64_w, i32_w]; rw [c11b0]) | skip)
            have H' := Aside0.mk H
            clear H
            go_wp2
            go_meet
            case rel => exact ⟨_, (true), (by first | rfl | (simp; done) | (simp [*]; done)), H', ⟨by have := HJ2.out; first | omega | exact Nat.le_refl _⟩, ⟨by repeat (first | (with_reducible first | exact HB.out | apply below_alloc | apply pw_below_drewN | apply below_drew1) | exact HB.out)⟩⟩
          · rw [if_neg c11] at H
            have c11b0 : decide (500 < (a1.size : Int)) = false := decide_eq_false c11
            have c11b1 : decide (500 < a1.size) = false := decide_eq_false (by omega)
            clear c11
            (first | rw [c11b0] | (simp only [i64_w, i32_w]; rw [c11b0]) | skip)
            have H' := Aside0.mk H
            clear H
            go_wp2
            go_meet
            case rel => exact ⟨_, (decide ((a0.size : Int) > 100)), (by first | rfl | (simp; done) | (simp [*]; done)), H', ⟨by have := HJ2.out; first | omega | exact Nat.le_refl _⟩, ⟨by repeat (first | (with_reducible first | exact HB.out | apply below_alloc | apply pw_below_drewN | apply below_drew1) | exact HB.out)⟩⟩
        case rest =>
          clear HC10
          try clear c1
          try clear p2
          try clear c5
          try clear c6
          try clear c7
          try clear c9
          try clear c11
          try clear c11b0
          try clear c11b1
          try clear p2
          obtain ⟨kq, x25_9, rfl, HA, HJ9, HB⟩ := hcut
          cases kq with
          | zero => exact absurd HA.out (by simp [primerlaw05_SyntaxStart.j1])
          | succ kj9 =>
            have H := HA.out
            clear HA
            simp only [primerlaw05_SyntaxStart.j1] at H
            by_cases c12 : x25_9 = true
            · subst c12
              have H1 : (some true) = some r := by rw [if_pos rfl] at H; exact H
              clear H
              have H := H1
              clear H1
              obtain rfl := Option.some.inj H
              go_wp2
              go_ret
              exact ⟨by first | rfl | (simp [errW_none, errW_some] <;> rfl) | (simp [*, errW_none, errW_some] <;> rfl), by repeat (first | (with_reducible first | exact HB.out | apply below_alloc | apply pw_below_drewN | apply below_drew1) | exact HB.out)⟩
            · replace c12 := Bool.eq_false_iff.mpr c12
              subst c12
              have H1 : ((syntax_Parse.f a1).bind fun bt146 => ((lex_Scan.f a1).bind fun bt155 => (if bt146.2.2.2.2 = 0 then (if 0 < (bt155.1.length : Int) then (if ((rd_T46 bt155.1 0).f1).toList = ([37] : List UInt8) then (primerlaw05_SyntaxStart.j2 kj9 a0 a1 true bt146.1 bt146.2.1) else ((lex_Good.f kj9 a0).bind fun t163 => (primerlaw05_SyntaxStart.j2 kj9 a0 a1 (!t163) bt146.1 bt146.2.1))) else (none)) else (primerlaw05_SyntaxStart.j2 kj9 a0 a1 true bt146.1 bt146.2.1)))) = some r := by rw [if_neg (show ¬ (false = true) by decide)] at H; exact H
              clear H
              have H := H1
              clear H1
              replace H := Option.bind_eq_some_iff.mp H
              obtain ⟨⟨t146, t147, t150, t151, t152⟩, A130, H⟩ := H
              replace H : ((lex_Scan.f a1).bind fun bt155 => (if t152 = 0 then (if 0 < (bt155.1.length : Int) then (if ((rd_T46 bt155.1 0).f1).toList = ([37] : List UInt8) then (primerlaw05_SyntaxStart.j2 kj9 a0 a1 true t146 t147) else ((lex_Good.f kj9 a0).bind fun t163 => (primerlaw05_SyntaxStart.j2 kj9 a0 a1 (!t163) t146 t147))) else (none)) else (primerlaw05_SyntaxStart.j2 kj9 a0 a1 true t146 t147))) = some r := H
              have A13 := Aside0.mk A130
              clear A130
              replace H := Option.bind_eq_some_iff.mp H
              obtain ⟨⟨t155, t158, t159, t160⟩, A140, H⟩ := H
              replace H : (if t152 = 0 then (if 0 < (t155.length : Int) then (if ((rd_T46 t155 0).f1).toList = ([37] : List UInt8) then (primerlaw05_SyntaxStart.j2 kj9 a0 a1 true t146 t147) else ((lex_Good.f kj9 a0).bind fun t163 => (primerlaw05_SyntaxStart.j2 kj9 a0 a1 (!t163) t146 t147))) else (none)) else (primerlaw05_SyntaxStart.j2 kj9 a0 a1 true t146 t147)) = some r := H
              have A14 := Aside0.mk A140
              clear A140
              have HC15 := Aside0.mk H
              clear H
              go_upto_region 7 with (first | ((with_reducible refine gate_callee (f := 8) rfl ?_); refine goesL_ (some 28) rfl rfl Try.func8 (by kernel_rfl) rfl #[.string a1] rfl (by (try simp only [List.map_toArray, List.map_cons, List.map_nil]); first | done | rfl | (simp only [List.length_drop, List.length_take]; rfl)) ?_; (with_reducible refine (syntax_Parse.calls a1 t146 t147 t150 t151 t152 _ A13.out).mono ?_); rintro e w16 ⟨v148, rfl, ho0, hb⟩; refine ⟨_, rfl, ?_⟩; have n0_ := Aside0.mk (Kd.R_lower ho0 (below_size (by repeat (first | (with_reducible first | exact HB.out | apply below_alloc | apply pw_below_drewN | apply below_drew1) | exact HB.out)))); have n1_ := Aside0.mk (below_step (by repeat (first | (with_reducible first | exact HB.out | apply below_alloc | apply pw_below_drewN | apply below_drew1) | exact HB.out)) hb); clear HB; have HO149 := n0_; have HB := n1_; clear n0_ n1_; (try clear hb); (try clear hb2); (try clear hk); (try clear hi); (try clear ho0)) | ((with_reducible refine gate_dst (N := 5) rfl ?_); (try (refine gate_guard (by rfl) ?_; dsimp only)); refine box_event ?hg (N := 5) ?hd (cs := #[.string (⟨#[]⟩ : ByteArray), .slice none 0 0]) (t := 25) ?hr ?_; (case hd => rfl); (case hg => rfl); (case hr => first | (go_simp; done) | (go_simp; rfl)); intro gb153 hg w17 hbox hb; have n0_ := Aside0.mk (Kd.R_below (by (with_reducible repeat (first | apply Kd.R_alloc | apply Kd.R_drewN | apply Kd.R_drew)); exact HO149.out) hb); have n1_ := Aside0.mk (below_step (by repeat (first | (with_reducible first | exact HB.out | apply below_alloc | apply pw_below_drewN | apply below_drew1) | exact HB.out)) hb); have n2_ := Aside0.mk (hbox); have n3_ := Aside0.mk ((by rw [hg]; exact (below_size (by repeat (first | (with_reducible first | exact HB.out | apply below_alloc | apply pw_below_drewN | apply below_drew1) | exact HB.out))) : w.heap.size ≤ gb153)); have n4_ := Aside0.mk ((by rw [hg]; exact (below_size (by repeat (first | (with_reducible first | exact HB.out | apply below_alloc | apply pw_below_drewN | apply below_drew1) | exact HB.out))) : w.heap.size ≤ gb153)); clear HO149; clear HB; have HO149 := n0_; have HB := n1_; have BK153 := n2_; have GW153 := n3_; have GE153 := n4_; clear n0_ n1_ n2_ n3_ n4_; clear hb hbox hg) | ((with_reducible refine gate_dst (N := 6) rfl ?_); (try (refine gate_guard (by rfl) ?_; dsimp only)); refine box_event ?hg (N := 6) ?hd (cs := #[.int .i64 0, .int .i64 0, .int .i64 0]) (t := 28) ?hr ?_; (case hd => rfl); (case hg => rfl); (case hr => first | (go_simp; done) | (go_simp; rfl)); intro gb154 hg w18 hbox hb; have n0_ := Aside0.mk (Kd.R_below (by (with_reducible repeat (first | apply Kd.R_alloc | apply Kd.R_drewN | apply Kd.R_drew)); exact HO149.out) hb); have n1_ := Aside0.mk (blk_below (g := gb153) (o := .cells #[.string (⟨#[]⟩ : ByteArray), .slice none 0 0] 25 (0, 0)) (by (with_reducible repeat (first | refine blk_drewN ?_ _ | refine blk_drew ?_ | refine blk_alloc ?_ _)); exact BK153.out) hb); have n2_ := Aside0.mk (below_step (by repeat (first | (with_reducible first | exact HB.out | apply below_alloc | apply pw_below_drewN | apply below_drew1 | refine below_set ?_ GE153.out) | exact HB.out)) hb); have n3_ := Aside0.mk (hbox); have n4_ := Aside0.mk ((by rw [hg]; exact (below_size (by repeat (first | (with_reducible first | exact HB.out | apply below_alloc | apply pw_below_drewN | apply below_drew1 | refine below_set ?_ GE153.out) | exact HB.out))) : w.heap.size ≤ gb154)); have n5_ := Aside0.mk ((by rw [hg]; exact (below_size (by repeat (first | (with_reducible first | exact HB.out | apply below_alloc | apply pw_below_drewN | apply below_drew1 | refine below_set ?_ GE153.out) | exact HB.out))) : w.heap.size ≤ gb154)); have n6_ := Aside0.mk ((by rw [hg]; exact Nat.ne_of_lt (blk_lt (g := gb153) (o := .cells #[.string (⟨#[]⟩ : ByteArray), .slice none 0 0] 25 (0, 0)) (by (with_reducible repeat (first | refine blk_drewN ?_ _ | refine blk_drew ?_ | refine blk_alloc ?_ _)); exact BK153.out)) : gb153 ≠ gb154)); have n7_ := Aside0.mk ((by rw [hg]; exact Nat.ne_of_gt (blk_lt (g := gb153) (o := .cells #[.string (⟨#[]⟩ : ByteArray), .slice none 0 0] 25 (0, 0)) (by (with_reducible repeat (first | refine blk_drewN ?_ _ | refine blk_drew ?_ | refine blk_alloc ?_ _)); exact BK153.out)) : gb154 ≠ gb153)); clear HO149; clear BK153; clear HB; have HO149 := n0_; have BK153 := n1_; have HB := n2_; have BK154 := n3_; have GW154 := n4_; have GE154 := n5_; have NB153_154 := n6_; have NB154_153 := n7_; clear n0_ n1_ n2_ n3_ n4_ n5_ n6_ n7_; clear hb hbox hg; have hnb19 := NB153_154.out; have hnc19 := NB154_153.out; have hcz20_0 : w18.cell? ⟨gb153, 0, none⟩ = some (.string (⟨#[]⟩ : ByteArray)) := (blk_cell BK153.out 0).trans rfl; have hcz20_1 : w18.cell? ⟨gb153, 1, none⟩ = some (.slice none 0 0) := (blk_cell BK153.out 1).trans rfl; have hfz20_0 := blk_frozen BK153.out 0; have hfz20_1 := blk_frozen BK153.out 1; obtain ⟨Ao21, co21, eo21⟩ := Kd.R_slice HO149.out; subst eo21; have hcz22_0 : w18.cell? ⟨gb154, 0, none⟩ = some (.int .i64 0) := (blk_cell BK154.out 0).trans rfl; have hcz22_1 : w18.cell? ⟨gb154, 1, none⟩ = some (.int .i64 0) := (blk_cell BK154.out 1).trans rfl; have hcz22_2 : w18.cell? ⟨gb154, 2, none⟩ = some (.int .i64 0) := (blk_cell BK154.out 2).trans rfl; have hfz22_0 := blk_frozen BK154.out 0; have hfz22_1 := blk_frozen BK154.out 1; have hfz22_2 := blk_frozen BK154.out 2) | ((with_reducible refine gate_callee (f := 13) rfl ?_); refine goesL_ (some 33) rfl rfl Try.func13 (by kernel_rfl) rfl #[.string a1] rfl (by (try simp only [List.map_toArray, List.map_cons, List.map_nil]); first | done | rfl | (simp only [List.length_drop, List.length_take]; rfl)) ?_; (with_reducible refine (lex_Scan.calls a1 t155 t158 t159 t160 _ A14.out).mono ?_); rintro e w23 ⟨v156, rfl, ho0, hb⟩; refine ⟨_, rfl, ?_⟩; have n0_ := Aside0.mk (Kd.R_below (by (with_reducible repeat (first | apply Kd.R_alloc | apply Kd.R_drewN | apply Kd.R_drew)); exact (Kd.R_mono (Kd.R_mono (Kd.R_far (p := ⟨gb154, 2, none⟩) (Kd.R_far (p := ⟨gb154, 1, none⟩) (Kd.R_far (p := ⟨gb154, 0, none⟩) (Kd.R_far (p := ⟨gb153, 1, none⟩) (Kd.R_far (p := ⟨gb153, 0, none⟩) (Kd.R_types (Kd.R_types HO149.out BK153.out (by decide)) BK154.out (by decide)) (fun _ hk => hk.1.2) (.string t146)) (fun _ hk => hk.1.2) (.slice Ao21 t147.length co21)) (fun _ hk => hk.2) (.int .i64 t150)) (fun _ hk => hk.2) (.int .i64 t151)) (fun _ hk => hk.2) (.int .i64 t152)) (fun _ h_ => h_.1)) (fun _ h_ => h_.1))) hb); have n1_ := Aside0.mk (Kd.R_lower ho0 (below_size (by repeat (first | (with_reducible first | exact HB.out | apply below_alloc | apply pw_below_drewN | apply below_drew1 | refine below_set ?_ GE153.out | refine below_set ?_ GE154.out) | exact HB.out)))); have n2_ := Aside0.mk (blk_below (g := gb153) (o := .cells #[.string t146, .slice Ao21 t147.length co21] 25 (0, 0)) (by (with_reducible repeat (first | refine blk_drewN ?_ _ | refine blk_drew ?_ | refine blk_alloc ?_ _)); refine blk_far ?_ NB153_154.out _; (with_reducible repeat (first | refine blk_drewN ?_ _ | refine blk_drew ?_ | refine blk_alloc ?_ _)); refine blk_far ?_ NB153_154.out _; (with_reducible repeat (first | refine blk_drewN ?_ _ | refine blk_drew ?_ | refine blk_alloc ?_ _)); refine blk_far ?_ NB153_154.out _; (with_reducible repeat (first | refine blk_drewN ?_ _ | refine blk_drew ?_ | refine blk_alloc ?_ _)); refine blk_put (cs := #[.string t146, .slice none 0 0]) ?_ 1 _ rfl; (with_reducible repeat (first | refine blk_drewN ?_ _ | refine blk_drew ?_ | refine blk_alloc ?_ _)); refine blk_put (cs := #[.string (⟨#[]⟩ : ByteArray), .slice none 0 0]) ?_ 0 _ rfl; (with_reducible repeat (first | refine blk_drewN ?_ _ | refine blk_drew ?_ | refine blk_alloc ?_ _)); exact BK153.out) hb); have n3_ := Aside0.mk (blk_below (g := gb154) (o := .cells #[.int .i64 t150, .int .i64 t151, .int .i64 t152] 28 (0, 0)) (by (with_reducible repeat (first | refine blk_drewN ?_ _ | refine blk_drew ?_ | refine blk_alloc ?_ _)); refine blk_put (cs := #[.int .i64 t150, .int .i64 t151, .int .i64 0]) ?_ 2 _ rfl; (with_reducible repeat (first | refine blk_drewN ?_ _ | refine blk_drew ?_ | refine blk_alloc ?_ _)); refine blk_put (cs := #[.int .i64 t150, .int .i64 0, .int .i64 0]) ?_ 1 _ rfl; (with_reducible repeat (first | refine blk_drewN ?_ _ | refine blk_drew ?_ | refine blk_alloc ?_ _)); refine blk_put (cs := #[.int .i64 0, .int .i64 0, .int .i64 0]) ?_ 0 _ rfl; (with_reducible repeat (first | refine blk_drewN ?_ _ | refine blk_drew ?_ | refine blk_alloc ?_ _)); refine blk_far ?_ NB154_153.out _; (with_reducible repeat (first | refine blk_drewN ?_ _ | refine blk_drew ?_ | refine blk_alloc ?_ _)); refine blk_far ?_ NB154_153.out _; (with_reducible repeat (first | refine blk_drewN ?_ _ | refine blk_drew ?_ | refine blk_alloc ?_ _)); exact BK154.out) hb); have n4_ := Aside0.mk (below_step (by repeat (first | (with_reducible first | exact HB.out | apply below_alloc | apply pw_below_drewN | apply below_drew1 | refine below_set ?_ GE153.out | refine below_set ?_ GE154.out) | exact HB.out)) hb); clear HO149; clear BK153; clear BK154; clear HB; have HO149 := n0_; have HO157 := n1_; have BK153 := n2_; have BK154 := n3_; have HB := n4_; clear n0_ n1_ n2_ n3_ n4_; (try clear hb); (try clear hb2); (try clear hk); (try clear hi); (try clear ho0)) | ((with_reducible refine gate_dst (N := 8) rfl ?_); (try (refine gate_guard (by rfl) ?_; dsimp only)); refine box_event ?hg (N := 8) ?hd (cs := #[.int .i64 0, .int .i64 0, .int .i64 0]) (t := 28) ?hr ?_; (case hd => rfl); (case hg => rfl); (case hr => first | (go_simp; done) | (go_simp; rfl)); intro gb161 hg w24 hbox hb; have n0_ := Aside0.mk (Kd.R_below (by (with_reducible repeat (first | apply Kd.R_alloc | apply Kd.R_drewN | apply Kd.R_drew)); exact HO149.out) hb); have n1_ := Aside0.mk (Kd.R_below (by (with_reducible repeat (first | apply Kd.R_alloc | apply Kd.R_drewN | apply Kd.R_drew)); exact HO157.out) hb); have n2_ := Aside0.mk (blk_below (g := gb153) (o := .cells #[.string t146, .slice Ao21 t147.length co21] 25 (0, 0)) (by (with_reducible repeat (first | refine blk_drewN ?_ _ | refine blk_drew ?_ | refine blk_alloc ?_ _)); exact BK153.out) hb); have n3_ := Aside0.mk (blk_below (g := gb154) (o := .cells #[.int .i64 t150, .int .i64 t151, .int .i64 t152] 28 (0, 0)) (by (with_reducible repeat (first | refine blk_drewN ?_ _ | refine blk_drew ?_ | refine blk_alloc ?_ _)); exact BK154.out) hb); have n4_ := Aside0.mk (below_step (by repeat (first | (with_reducible first | exact HB.out | apply below_alloc | apply pw_below_drewN | apply below_drew1 | refine below_set ?_ GE153.out | refine below_set ?_ GE154.out) | exact HB.out)) hb); have n5_ := Aside0.mk (hbox); have n6_ := Aside0.mk ((by rw [hg]; exact (below_size (by repeat (first | (with_reducible first | exact HB.out | apply below_alloc | apply pw_below_drewN | apply below_drew1 | refine below_set ?_ GE153.out | refine below_set ?_ GE154.out) | exact HB.out))) : w.heap.size ≤ gb161)); have n7_ := Aside0.mk ((by rw [hg]; exact (below_size (by repeat (first | (with_reducible first | exact HB.out | apply below_alloc | apply pw_below_drewN | apply below_drew1 | refine below_set ?_ GE153.out | refine below_set ?_ GE154.out) | exact HB.out))) : w.heap.size ≤ gb161)); have n8_ := Aside0.mk ((by rw [hg]; exact Nat.ne_of_lt (blk_lt (g := gb153) (o := .cells #[.string t146, .slice Ao21 t147.length co21] 25 (0, 0)) (by (with_reducible repeat (first | refine blk_drewN ?_ _ | refine blk_drew ?_ | refine blk_alloc ?_ _)); exact BK153.out)) : gb153 ≠ gb161)); have n9_ := Aside0.mk ((by rw [hg]; exact Nat.ne_of_gt (blk_lt (g := gb153) (o := .cells #[.string t146, .slice Ao21 t147.length co21] 25 (0, 0)) (by (with_reducible repeat (first | refine blk_drewN ?_ _ | refine blk_drew ?_ | refine blk_alloc ?_ _)); exact BK153.out)) : gb161 ≠ gb153)); have n10_ := Aside0.mk ((by rw [hg]; exact Nat.ne_of_lt (blk_lt (g := gb154) (o := .cells #[.int .i64 t150, .int .i64 t151, .int .i64 t152] 28 (0, 0)) (by (with_reducible repeat (first | refine blk_drewN ?_ _ | refine blk_drew ?_ | refine blk_alloc ?_ _)); exact BK154.out)) : gb154 ≠ gb161)); have n11_ := Aside0.mk ((by rw [hg]; exact Nat.ne_of_gt (blk_lt (g := gb154) (o := .cells #[.int .i64 t150, .int .i64 t151, .int .i64 t152] 28 (0, 0)) (by (with_reducible repeat (first | refine blk_drewN ?_ _ | refine blk_drew ?_ | refine blk_alloc ?_ _)); exact BK154.out)) : gb161 ≠ gb154)); clear HO149; clear HO157; clear BK153; clear BK154; clear HB; have HO149 := n0_; have HO157 := n1_; have BK153 := n2_; have BK154 := n3_; have HB := n4_; have BK161 := n5_; have GW161 := n6_; have GE161 := n7_; have NB153_161 := n8_; have NB161_153 := n9_; have NB154_161 := n10_; have NB161_154 := n11_; clear n0_ n1_ n2_ n3_ n4_ n5_ n6_ n7_ n8_ n9_ n10_ n11_; clear hb hbox hg; have hnb25 := NB161_153.out; have hnc25 := NB153_161.out; have hnb26 := NB161_154.out; have hnc26 := NB154_161.out; have hcz27_0 : w24.cell? ⟨gb161, 0, none⟩ = some (.int .i64 0) := (blk_cell BK161.out 0).trans rfl; have hcz27_1 : w24.cell? ⟨gb161, 1, none⟩ = some (.int .i64 0) := (blk_cell BK161.out 1).trans rfl; have hcz27_2 : w24.cell? ⟨gb161, 2, none⟩ = some (.int .i64 0) := (blk_cell BK161.out 2).trans rfl; have hfz27_0 := blk_frozen BK161.out 0; have hfz27_1 := blk_frozen BK161.out 1; have hfz27_2 := blk_frozen BK161.out 2))
              (try simp only [Act.put, List.setIfInBounds_toArray, List.set_cons_zero, List.set_cons_succ])
              go_cut [50] (fun v50 wc => ∃ (kq : Nat) (x50_14 : Bool), v50 = .bool x50_14 ∧ Aside0 (primerlaw05_SyntaxStart.j2 kq a0 a1 x50_14 t146 t147 = some r) ∧ Aside0 (kq ≤ kj9) ∧ Aside0 (Kd.R k51 51 wc w.heap.size (fun _ => True) (.slice Ao21 t147.length co21) t147) ∧ Aside0 (wc.heap[gb153]? = some (.cells #[.string t146, (.slice Ao21 t147.length co21)] 25 (0, 0))) ∧ Aside0 (wc.heap[gb154]? = some (.cells #[.int .i64 t150, .int .i64 t151, .int .i64 t152] 28 (0, 0))) ∧ Aside0 (wc.heap[gb161]? = some (.cells #[.int .i64 t158, .int .i64 t159, .int .i64 t160] 28 (0, 0))) ∧ Aside0 (Below w.heap.size w wc))
              case first =>
                have H := HC15.out
                clear HC15
                by_cases c28 : t152 = 0
                · rw [if_pos c28] at H
                  have c28b0 : (t152 == 0) = true := beq_iff_eq.mpr c28
                  have c28b1 : (t152 != 0) = false := bne_eq_false_iff_eq.mpr c28
                  clear c28
                  (first | rw [c28b0] | (simp only [i64_w, i32_w]; rw [c28b0]) | skip)
                  by_cases c29 : 0 < (t155.length : Int)
                  · rw [if_pos c29] at H
                    have c29b0 : decide (0 < (t155.length : Int)) = true := decide_eq_true c29
                    have c29b1 : decide (0 < t155.length) = true := decide_eq_true (by omega)
                    clear c29
                    by_cases c30 : ((rd_T46 t155 0).f1).toList = ([37] : List UInt8)
                    · rw [if_pos c30] at H
                      have c30b0 : (((rd_T46 t155 0).f1).toList == ([37] : List UInt8)) = true := beq_iff_eq.mpr c30
                      have c30b1 : (((rd_T46 t155 0).f1).toList != ([37] : List UInt8)) = false := bne_eq_false_iff_eq.mpr c30
                      clear c30
                      have H' := Aside0.mk H
                      clear H
                      have hnb31 := NB154_153.out
                      have hnc31 := NB153_154.out
                      have hnb32 := NB154_161.out
                      have hnc32 := NB161_154.out
                      have hcz33_0 : w24.cell? ⟨gb154, 0, none⟩ = some (.int .i64 t150) := (blk_cell BK154.out 0).trans rfl
                      have hcz33_1 : w24.cell? ⟨gb154, 1, none⟩ = some (.int .i64 t151) := (blk_cell BK154.out 1).trans rfl
                      have hcz33_2 : w24.cell? ⟨gb154, 2, none⟩ = some (.int .i64 t152) := (blk_cell BK154.out 2).trans rfl
                      have hfz33_0 := blk_frozen BK154.out 0
                      have hfz33_1 := blk_frozen BK154.out 1
                      have hfz33_2 := blk_frozen BK154.out 2
                      obtain ⟨Ao34, co34, eo34⟩ := Kd.R_slice HO157.out
                      subst eo34
                      have p162 : 0 ≤ (0 : Int) := (by omega)
                      have q162 : 0 < (t155.length : Int) := of_decide_eq_true (by first | (with_reducible assumption) | assumption)
                      obtain ⟨ad162, e162, hx162_0, hx162_1, hx162_2, hx162_3⟩ := at_T46 (Kd.R_reads' HO157.out).2.2 0 p162 q162
                      cases e162
                      have qi162 : (0 < t155.length) = True := eq_true (by omega)
                      (try rw [show ((0 : Int)).toNat = 0 from rfl] at hx162_0)
                      (try rw [show 0 * 4 = 0 from rfl] at hx162_0)
                      (try rw [Addr.add_zero'] at hx162_0)
                      (try rw [show ((0 : Int)).toNat = 0 from rfl] at hx162_1)
                      (try rw [show 0 * 4 = 0 from rfl] at hx162_1)
                      (try rw [Addr.add_zero'] at hx162_1)
                      (try rw [show ((0 : Int)).toNat = 0 from rfl] at hx162_2)
                      (try rw [show 0 * 4 = 0 from rfl] at hx162_2)
                      (try rw [Addr.add_zero'] at hx162_2)
                      (try rw [show ((0 : Int)).toNat = 0 from rfl] at hx162_3)
                      (try rw [show 0 * 4 = 0 from rfl] at hx162_3)
                      (try rw [Addr.add_zero'] at hx162_3)
                      have hn162_0 : ad162.block ≠ gb161 := Kd.own_blk (Kd.R_ne HO157.out BK161.out (by decide))
                      have hn162_1 : ad162.block ≠ gb161 := Kd.own_blk (Kd.R_ne HO157.out BK161.out (by decide))
                      have hn162_2 : ad162.block ≠ gb161 := Kd.own_blk (Kd.R_ne HO157.out BK161.out (by decide))
                      replace hx162_0 := (cell_far (p := ⟨gb161, 0, none⟩) (by first | (rw [add_block]; exact hn162_0) | (show (Addr.add _ _).block ≠ _; rw [add_block]; exact hn162_0) | exact hn162_0) (.int .i64 t158)).trans hx162_0
                      replace hx162_1 := (cell_far (p := ⟨gb161, 0, none⟩) (by first | (rw [add_block]; exact hn162_0) | (show (Addr.add _ _).block ≠ _; rw [add_block]; exact hn162_0) | exact hn162_0) (.int .i64 t158)).trans hx162_1
                      replace hx162_2 := (cell_far (p := ⟨gb161, 0, none⟩) (by first | (rw [add_block]; exact hn162_0) | (show (Addr.add _ _).block ≠ _; rw [add_block]; exact hn162_0) | exact hn162_0) (.int .i64 t158)).trans hx162_2
                      replace hx162_3 := (cell_far (p := ⟨gb161, 0, none⟩) (by first | (rw [add_block]; exact hn162_0) | (show (Addr.add _ _).block ≠ _; rw [add_block]; exact hn162_0) | exact hn162_0) (.int .i64 t158)).trans hx162_3
                      replace hx162_0 := (cell_far (p := ⟨gb161, 1, none⟩) (by first | (rw [add_block]; exact hn162_1) | (show (Addr.add _ _).block ≠ _; rw [add_block]; exact hn162_1) | exact hn162_1) (.int .i64 t159)).trans hx162_0
                      replace hx162_1 := (cell_far (p := ⟨gb161, 1, none⟩) (by first | (rw [add_block]; exact hn162_1) | (show (Addr.add _ _).block ≠ _; rw [add_block]; exact hn162_1) | exact hn162_1) (.int .i64 t159)).trans hx162_1
                      replace hx162_2 := (cell_far (p := ⟨gb161, 1, none⟩) (by first | (rw [add_block]; exact hn162_1) | (show (Addr.add _ _).block ≠ _; rw [add_block]; exact hn162_1) | exact hn162_1) (.int .i64 t159)).trans hx162_2
                      replace hx162_3 := (cell_far (p := ⟨gb161, 1, none⟩) (by first | (rw [add_block]; exact hn162_1) | (show (Addr.add _ _).block ≠ _; rw [add_block]; exact hn162_1) | exact hn162_1) (.int .i64 t159)).trans hx162_3
                      replace hx162_0 := (cell_far (p := ⟨gb161, 2, none⟩) (by first | (rw [add_block]; exact hn162_2) | (show (Addr.add _ _).block ≠ _; rw [add_block]; exact hn162_2) | exact hn162_2) (.int .i64 t160)).trans hx162_0
                      replace hx162_1 := (cell_far (p := ⟨gb161, 2, none⟩) (by first | (rw [add_block]; exact hn162_2) | (show (Addr.add _ _).block ≠ _; rw [add_block]; exact hn162_2) | exact hn162_2) (.int .i64 t160)).trans hx162_1
                      replace hx162_2 := (cell_far (p := ⟨gb161, 2, none⟩) (by first | (rw [add_block]; exact hn162_2) | (show (Addr.add _ _).block ≠ _; rw [add_block]; exact hn162_2) | exact hn162_2) (.int .i64 t160)).trans hx162_2
                      replace hx162_3 := (cell_far (p := ⟨gb161, 2, none⟩) (by first | (rw [add_block]; exact hn162_2) | (show (Addr.add _ _).block ≠ _; rw [add_block]; exact hn162_2) | exact hn162_2) (.int .i64 t160)).trans hx162_3
                      clear hn162_0
                      clear hn162_1
                      clear hn162_2
                      replace p162 := eq_true p162
                      replace q162 := eq_true q162
                      go_wp2
                      go_meet
                      case rel => exact ⟨_, (true), (by first | rfl | (simp; done) | (simp [*]; done)), H', ⟨by have := HJ2.out; have := HJ9.out; first | omega | exact Nat.le_refl _⟩, ⟨by (with_reducible repeat (first | apply Kd.R_alloc | apply Kd.R_drewN | apply Kd.R_drew)); exact Kd.R_mono (Kd.R_far (p := ⟨gb161, 2, none⟩) (Kd.R_far (p := ⟨gb161, 1, none⟩) (Kd.R_far (p := ⟨gb161, 0, none⟩) (Kd.R_types HO149.out BK161.out (by decide)) (fun _ hk => hk.2) (.int .i64 t158)) (fun _ hk => hk.2) (.int .i64 t159)) (fun _ hk => hk.2) (.int .i64 t160)) (fun _ hk => trivial)⟩, ⟨by (with_reducible repeat (first | refine blk_drewN ?_ _ | refine blk_drew ?_ | refine blk_alloc ?_ _)); refine blk_far ?_ NB153_161.out _; (with_reducible repeat (first | refine blk_drewN ?_ _ | refine blk_drew ?_ | refine blk_alloc ?_ _)); refine blk_far ?_ NB153_161.out _; (with_reducible repeat (first | refine blk_drewN ?_ _ | refine blk_drew ?_ | refine blk_alloc ?_ _)); refine blk_far ?_ NB153_161.out _; (with_reducible repeat (first | refine blk_drewN ?_ _ | refine blk_drew ?_ | refine blk_alloc ?_ _)); exact BK153.out⟩, ⟨by (with_reducible repeat (first | refine blk_drewN ?_ _ | refine blk_drew ?_ | refine blk_alloc ?_ _)); refine blk_far ?_ NB154_161.out _; (with_reducible repeat (first | refine blk_drewN ?_ _ | refine blk_drew ?_ | refine blk_alloc ?_ _)); refine blk_far ?_ NB154_161.out _; (with_reducible repeat (first | refine blk_drewN ?_ _ | refine blk_drew ?_ | refine blk_alloc ?_ _)); refine blk_far ?_ NB154_161.out _; (with_reducible repeat (first | refine blk_drewN ?_ _ | refine blk_drew ?_ | refine blk_alloc ?_ _)); exact BK154.out⟩, ⟨by (with_reducible repeat (first | refine blk_drewN ?_ _ | refine blk_drew ?_ | refine blk_alloc ?_ _)); refine blk_put (cs := #[.int .i64 t158, .int .i64 t159, .int .i64 0]) ?_ 2 _ rfl; (with_reducible repeat (first | refine blk_drewN ?_ _ | refine blk_drew ?_ | refine blk_alloc ?_ _)); refine blk_put (cs := #[.int .i64 t158, .int .i64 0, .int .i64 0]) ?_ 1 _ rfl; (with_reducible repeat (first | refine blk_drewN ?_ _ | refine blk_drew ?_ | refine blk_alloc ?_ _)); refine blk_put (cs := #[.int .i64 0, .int .i64 0, .int .i64 0]) ?_ 0 _ rfl; (with_reducible repeat (first | refine blk_drewN ?_ _ | refine blk_drew ?_ | refine blk_alloc ?_ _)); exact BK161.out⟩, ⟨by repeat (first | (with_reducible first | exact HB.out | apply below_alloc | apply pw_below_drewN | apply below_drew1 | refine below_set ?_ GE153.out | refine below_set ?_ GE154.out | refine below_set ?_ GE161.out) | exact HB.out)⟩⟩
                    · rw [if_neg c30] at H
                      have c30b0 : (((rd_T46 t155 0).f1).toList == ([37] : List UInt8)) = false := beq_eq_false_iff_ne.mpr c30
                      have c30b1 : (((rd_T46 t155 0).f1).toList != ([37] : List UInt8)) = true := bne_iff_ne.mpr c30
                      replace H := Option.bind_eq_some_iff.mp H
                      obtain ⟨t163, A350, H⟩ := H
                      replace H : (primerlaw05_SyntaxStart.j2 kj9 a0 a1 (!t163) t146 t147) = some r := H
                      have A35 := Aside0.mk A350
                      clear A350
                      have H' := Aside0.mk H
                      clear H
                      have hnb36 := NB154_153.out
                      have hnc36 := NB153_154.out
                      have hnb37 := NB154_161.out
                      have hnc37 := NB161_154.out
                      have hcz38_0 : w24.cell? ⟨gb154, 0, none⟩ = some (.int .i64 t150) := (blk_cell BK154.out 0).trans rfl
                      have hcz38_1 : w24.cell? ⟨gb154, 1, none⟩ = some (.int .i64 t151) := (blk_cell BK154.out 1).trans rfl
                      have hcz38_2 : w24.cell? ⟨gb154, 2, none⟩ = some (.int .i64 t152) := (blk_cell BK154.out 2).trans rfl
                      have hfz38_0 := blk_frozen BK154.out 0
                      have hfz38_1 := blk_frozen BK154.out 1
                      have hfz38_2 := blk_frozen BK154.out 2
                      obtain ⟨Ao39, co39, eo39⟩ := Kd.R_slice HO157.out
                      subst eo39
                      have p162 : 0 ≤ (0 : Int) := (by omega)
                      have q162 : 0 < (t155.length : Int) := of_decide_eq_true (by first | (with_reducible assumption) | assumption)
                      obtain ⟨ad162, e162, hx162_0, hx162_1, hx162_2, hx162_3⟩ := at_T46 (Kd.R_reads' HO157.out).2.2 0 p162 q162
                      cases e162
                      have qi162 : (0 < t155.length) = True := eq_true (by omega)
                      (try rw [show ((0 : Int)).toNat = 0 from rfl] at hx162_0)
                      (try rw [show 0 * 4 = 0 from rfl] at hx162_0)
                      (try rw [Addr.add_zero'] at hx162_0)
                      (try rw [show ((0 : Int)).toNat = 0 from rfl] at hx162_1)
                      (try rw [show 0 * 4 = 0 from rfl] at hx162_1)
                      (try rw [Addr.add_zero'] at hx162_1)
                      (try rw [show ((0 : Int)).toNat = 0 from rfl] at hx162_2)
                      (try rw [show 0 * 4 = 0 from rfl] at hx162_2)
                      (try rw [Addr.add_zero'] at hx162_2)
                      (try rw [show ((0 : Int)).toNat = 0 from rfl] at hx162_3)
                      (try rw [show 0 * 4 = 0 from rfl] at hx162_3)
                      (try rw [Addr.add_zero'] at hx162_3)
                      have hn162_0 : ad162.block ≠ gb161 := Kd.own_blk (Kd.R_ne HO157.out BK161.out (by decide))
                      have hn162_1 : ad162.block ≠ gb161 := Kd.own_blk (Kd.R_ne HO157.out BK161.out (by decide))
                      have hn162_2 : ad162.block ≠ gb161 := Kd.own_blk (Kd.R_ne HO157.out BK161.out (by decide))
                      replace hx162_0 := (cell_far (p := ⟨gb161, 0, none⟩) (by first | (rw [add_block]; exact hn162_0) | (show (Addr.add _ _).block ≠ _; rw [add_block]; exact hn162_0) | exact hn162_0) (.int .i64 t158)).trans hx162_0
                      replace hx162_1 := (cell_far (p := ⟨gb161, 0, none⟩) (by first | (rw [add_block]; exact hn162_0) | (show (Addr.add _ _).block ≠ _; rw [add_block]; exact hn162_0) | exact hn162_0) (.int .i64 t158)).trans hx162_1
                      replace hx162_2 := (cell_far (p := ⟨gb161, 0, none⟩) (by first | (rw [add_block]; exact hn162_0) | (show (Addr.add _ _).block ≠ _; rw [add_block]; exact hn162_0) | exact hn162_0) (.int .i64 t158)).trans hx162_2
                      replace hx162_3 := (cell_far (p := ⟨gb161, 0, none⟩) (by first | (rw [add_block]; exact hn162_0) | (show (Addr.add _ _).block ≠ _; rw [add_block]; exact hn162_0) | exact hn162_0) (.int .i64 t158)).trans hx162_3
                      replace hx162_0 := (cell_far (p := ⟨gb161, 1, none⟩) (by first | (rw [add_block]; exact hn162_1) | (show (Addr.add _ _).block ≠ _; rw [add_block]; exact hn162_1) | exact hn162_1) (.int .i64 t159)).trans hx162_0
                      replace hx162_1 := (cell_far (p := ⟨gb161, 1, none⟩) (by first | (rw [add_block]; exact hn162_1) | (show (Addr.add _ _).block ≠ _; rw [add_block]; exact hn162_1) | exact hn162_1) (.int .i64 t159)).trans hx162_1
                      replace hx162_2 := (cell_far (p := ⟨gb161, 1, none⟩) (by first | (rw [add_block]; exact hn162_1) | (show (Addr.add _ _).block ≠ _; rw [add_block]; exact hn162_1) | exact hn162_1) (.int .i64 t159)).trans hx162_2
                      replace hx162_3 := (cell_far (p := ⟨gb161, 1, none⟩) (by first | (rw [add_block]; exact hn162_1) | (show (Addr.add _ _).block ≠ _; rw [add_block]; exact hn162_1) | exact hn162_1) (.int .i64 t159)).trans hx162_3
                      replace hx162_0 := (cell_far (p := ⟨gb161, 2, none⟩) (by first | (rw [add_block]; exact hn162_2) | (show (Addr.add _ _).block ≠ _; rw [add_block]; exact hn162_2) | exact hn162_2) (.int .i64 t160)).trans hx162_0
                      replace hx162_1 := (cell_far (p := ⟨gb161, 2, none⟩) (by first | (rw [add_block]; exact hn162_2) | (show (Addr.add _ _).block ≠ _; rw [add_block]; exact hn162_2) | exact hn162_2) (.int .i64 t160)).trans hx162_1
                      replace hx162_2 := (cell_far (p := ⟨gb161, 2, none⟩) (by first | (rw [add_block]; exact hn162_2) | (show (Addr.add _ _).block ≠ _; rw [add_block]; exact hn162_2) | exact hn162_2) (.int .i64 t160)).trans hx162_2
                      replace hx162_3 := (cell_far (p := ⟨gb161, 2, none⟩) (by first | (rw [add_block]; exact hn162_2) | (show (Addr.add _ _).block ≠ _; rw [add_block]; exact hn162_2) | exact hn162_2) (.int .i64 t160)).trans hx162_3
                      clear hn162_0
                      clear hn162_1
                      clear hn162_2
                      replace p162 := eq_true p162
                      replace q162 := eq_true q162
                      go_wp2_with (first | (go_at_call 16; (with_reducible refine (lex_Good.calls kj9 a0 t163 _ A35.out).mono ?_); rintro e w' ⟨rfl, ⟨nd, rfl⟩⟩))
                      go_meet
                      case rel => exact ⟨_, (!t163), (by first | rfl | (simp; done) | (simp [*]; done)), H', ⟨by have := HJ2.out; have := HJ9.out; first | omega | exact Nat.le_refl _⟩, ⟨by (with_reducible repeat (first | apply Kd.R_alloc | apply Kd.R_drewN | apply Kd.R_drew)); exact Kd.R_mono (Kd.R_far (p := ⟨gb161, 2, none⟩) (Kd.R_far (p := ⟨gb161, 1, none⟩) (Kd.R_far (p := ⟨gb161, 0, none⟩) (Kd.R_types HO149.out BK161.out (by decide)) (fun _ hk => hk.2) (.int .i64 t158)) (fun _ hk => hk.2) (.int .i64 t159)) (fun _ hk => hk.2) (.int .i64 t160)) (fun _ hk => trivial)⟩, ⟨by (with_reducible repeat (first | refine blk_drewN ?_ _ | refine blk_drew ?_ | refine blk_alloc ?_ _)); refine blk_far ?_ NB153_161.out _; (with_reducible repeat (first | refine blk_drewN ?_ _ | refine blk_drew ?_ | refine blk_alloc ?_ _)); refine blk_far ?_ NB153_161.out _; (with_reducible repeat (first | refine blk_drewN ?_ _ | refine blk_drew ?_ | refine blk_alloc ?_ _)); refine blk_far ?_ NB153_161.out _; (with_reducible repeat (first | refine blk_drewN ?_ _ | refine blk_drew ?_ | refine blk_alloc ?_ _)); exact BK153.out⟩, ⟨by (with_reducible repeat (first | refine blk_drewN ?_ _ | refine blk_drew ?_ | refine blk_alloc ?_ _)); refine blk_far ?_ NB154_161.out _; (with_reducible repeat (first | refine blk_drewN ?_ _ | refine blk_drew ?_ | refine blk_alloc ?_ _)); refine blk_far ?_ NB154_161.out _; (with_reducible repeat (first | refine blk_drewN ?_ _ | refine blk_drew ?_ | refine blk_alloc ?_ _)); refine blk_far ?_ NB154_161.out _; (with_reducible repeat (first | refine blk_drewN ?_ _ | refine blk_drew ?_ | refine blk_alloc ?_ _)); exact BK154.out⟩, ⟨by (with_reducible repeat (first | refine blk_drewN ?_ _ | refine blk_drew ?_ | refine blk_alloc ?_ _)); refine blk_put (cs := #[.int .i64 t158, .int .i64 t159, .int .i64 0]) ?_ 2 _ rfl; (with_reducible repeat (first | refine blk_drewN ?_ _ | refine blk_drew ?_ | refine blk_alloc ?_ _)); refine blk_put (cs := #[.int .i64 t158, .int .i64 0, .int .i64 0]) ?_ 1 _ rfl; (with_reducible repeat (first | refine blk_drewN ?_ _ | refine blk_drew ?_ | refine blk_alloc ?_ _)); refine blk_put (cs := #[.int .i64 0, .int .i64 0, .int .i64 0]) ?_ 0 _ rfl; (with_reducible repeat (first | refine blk_drewN ?_ _ | refine blk_drew ?_ | refine blk_alloc ?_ _)); exact BK161.out⟩, ⟨by repeat (first | (with_reducible first | exact HB.out | apply below_alloc | apply pw_below_drewN | apply below_drew1 | refine below_set ?_ GE153.out | refine below_set ?_ GE154.out | refine below_set ?_ GE161.out) | exact HB.out)⟩⟩
                  · rw [if_neg c29] at H
                    exact absurd H (by simp)
                · rw [if_neg c28] at H
                  have c28b0 : (t152 == 0) = false := beq_eq_false_iff_ne.mpr c28
                  have c28b1 : (t152 != 0) = true := bne_iff_ne.mpr c28
                  (first | rw [c28b0] | (simp only [i64_w, i32_w]; rw [c28b0]) | skip)
                  have H' := Aside0.mk H
                  clear H
                  have hnb40 := NB154_153.out
                  have hnc40 := NB153_154.out
                  have hnb41 := NB154_161.out
                  have hnc41 := NB161_154.out
                  have hcz42_0 : w24.cell? ⟨gb154, 0, none⟩ = some (.int .i64 t150) := (blk_cell BK154.out 0).trans rfl
                  have hcz42_1 : w24.cell? ⟨gb154, 1, none⟩ = some (.int .i64 t151) := (blk_cell BK154.out 1).trans rfl
                  have hcz42_2 : w24.cell? ⟨gb154, 2, none⟩ = some (.int .i64 t152) := (blk_cell BK154.out 2).trans rfl
                  have hfz42_0 := blk_frozen BK154.out 0
                  have hfz42_1 := blk_frozen BK154.out 1
                  have hfz42_2 := blk_frozen BK154.out 2
                  go_wp2
                  go_meet
                  case rel => exact ⟨_, (true), (by first | rfl | (simp; done) | (simp [*]; done)), H', ⟨by have := HJ2.out; have := HJ9.out; first | omega | exact Nat.le_refl _⟩, ⟨by (with_reducible repeat (first | apply Kd.R_alloc | apply Kd.R_drewN | apply Kd.R_drew)); exact Kd.R_mono (Kd.R_far (p := ⟨gb161, 2, none⟩) (Kd.R_far (p := ⟨gb161, 1, none⟩) (Kd.R_far (p := ⟨gb161, 0, none⟩) (Kd.R_types HO149.out BK161.out (by decide)) (fun _ hk => hk.2) (.int .i64 t158)) (fun _ hk => hk.2) (.int .i64 t159)) (fun _ hk => hk.2) (.int .i64 t160)) (fun _ hk => trivial)⟩, ⟨by (with_reducible repeat (first | refine blk_drewN ?_ _ | refine blk_drew ?_ | refine blk_alloc ?_ _)); refine blk_far ?_ NB153_161.out _; (with_reducible repeat (first | refine blk_drewN ?_ _ | refine blk_drew ?_ | refine blk_alloc ?_ _)); refine blk_far ?_ NB153_161.out _; (with_reducible repeat (first | refine blk_drewN ?_ _ | refine blk_drew ?_ | refine blk_alloc ?_ _)); refine blk_far ?_ NB153_161.out _; (with_reducible repeat (first | refine blk_drewN ?_ _ | refine blk_drew ?_ | refine blk_alloc ?_ _)); exact BK153.out⟩, ⟨by (with_reducible repeat (first | refine blk_drewN ?_ _ | refine blk_drew ?_ | refine blk_alloc ?_ _)); refine blk_far ?_ NB154_161.out _; (with_reducible repeat (first | refine blk_drewN ?_ _ | refine blk_drew ?_ | refine blk_alloc ?_ _)); refine blk_far ?_ NB154_161.out _; (with_reducible repeat (first | refine blk_drewN ?_ _ | refine blk_drew ?_ | refine blk_alloc ?_ _)); refine blk_far ?_ NB154_161.out _; (with_reducible repeat (first | refine blk_drewN ?_ _ | refine blk_drew ?_ | refine blk_alloc ?_ _)); exact BK154.out⟩, ⟨by (with_reducible repeat (first | refine blk_drewN ?_ _ | refine blk_drew ?_ | refine blk_alloc ?_ _)); refine blk_put (cs := #[.int .i64 t158, .int .i64 t159, .int .i64 0]) ?_ 2 _ rfl; (with_reducible repeat (first | refine blk_drewN ?_ _ | refine blk_drew ?_ | refine blk_alloc ?_ _)); refine blk_put (cs := #[.int .i64 t158, .int .i64 0, .int .i64 0]) ?_ 1 _ rfl; (with_reducible repeat (first | refine blk_drewN ?_ _ | refine blk_drew ?_ | refine blk_alloc ?_ _)); refine blk_put (cs := #[.int .i64 0, .int .i64 0, .int .i64 0]) ?_ 0 _ rfl; (with_reducible repeat (first | refine blk_drewN ?_ _ | refine blk_drew ?_ | refine blk_alloc ?_ _)); exact BK161.out⟩, ⟨by repeat (first | (with_reducible first | exact HB.out | apply below_alloc | apply pw_below_drewN | apply below_drew1 | refine below_set ?_ GE153.out | refine below_set ?_ GE154.out | refine below_set ?_ GE161.out) | exact HB.out)⟩⟩
              case rest =>
                clear HC15
                try clear c1
                try clear p1
                try clear q1
                try clear hx1
                try clear qi1
                try clear c2
                try clear p2
                try clear c3
                try clear c4
                try clear c5
                try clear c6
                try clear c7
                try clear c8
                try clear c9
                try clear c11
                try clear c11b0
                try clear c11b1
                try clear c12
                try clear c13
                try clear p16
                try clear q16
                try clear hx16
                try clear qi16
                try clear c19
                try clear c25
                try clear c26
                try clear c28
                try clear c28b0
                try clear c28b1
                try clear c29
                try clear c29b0
                try clear c29b1
                try clear c30
                try clear c30b0
                try clear c30b1
                try clear c31
                try clear c32
                try clear c36
                try clear c37
                try clear c40
                try clear c41
                try clear hcz20_0
                try clear hcz20_1
                try clear hcz22_0
                try clear hcz22_1
                try clear hcz22_2
                try clear hcz27_0
                try clear hcz27_1
                try clear hcz27_2
                try clear hcz33_0
                try clear hcz33_1
                try clear hcz33_2
                try clear hcz38_0
                try clear hcz38_1
                try clear hcz38_2
                try clear hcz42_0
                try clear hcz42_1
                try clear hcz42_2
                try clear hfz20_0
                try clear hfz20_1
                try clear hfz22_0
                try clear hfz22_1
                try clear hfz22_2
                try clear hfz27_0
                try clear hfz27_1
                try clear hfz27_2
                try clear hfz33_0
                try clear hfz33_1
                try clear hfz33_2
                try clear hfz38_0
                try clear hfz38_1
                try clear hfz38_2
                try clear hfz42_0
                try clear hfz42_1
                try clear hfz42_2
                try clear hx162_0
                try clear hx162_1
                try clear hx162_2
                try clear hx162_3
                try clear p162
                try clear p2
                try clear q162
                obtain ⟨kq, x50_14, rfl, HA, HJ14, HO_154001, BK153, BK154, BK161, HB⟩ := hcut
                cases kq with
                | zero => exact absurd HA.out (by simp [primerlaw05_SyntaxStart.j2])
                | succ kj14 =>
                  have H := HA.out
                  clear HA
                  simp only [primerlaw05_SyntaxStart.j2] at H
                  by_cases c43 : x50_14 = true
                  · subst c43
                    have H1 : (some true) = some r := by rw [if_pos rfl] at H; exact H
                    clear H
                    have H := H1
                    clear H1
                    obtain rfl := Option.some.inj H
                    go_wp2
                    go_ret
                    exact ⟨by first | rfl | (simp [errW_none, errW_some] <;> rfl) | (simp [*, errW_none, errW_some] <;> rfl), by repeat (first | (with_reducible first | exact HB.out | apply below_alloc | apply pw_below_drewN | apply below_drew1 | refine below_set ?_ GE153.out | refine below_set ?_ GE154.out | refine below_set ?_ GE161.out) | exact HB.out)⟩
                  · replace c43 := Bool.eq_false_iff.mpr c43
                    subst c43
                    have H1 : (if 1 + a0.size ≤ 9223372036854775807 then (if ((⟨#[37]⟩ : ByteArray) ++ a0).size + 1 ≤ 9223372036854775807 then (if (((⟨#[37]⟩ : ByteArray) ++ a0) ++ (⟨#[59]⟩ : ByteArray)).size + a1.size ≤ 9223372036854775807 then ((syntax_Parse.f ((((⟨#[37]⟩ : ByteArray) ++ a0) ++ (⟨#[59]⟩ : ByteArray)) ++ a1)).bind fun bt164 => (if bt164.2.2.2.2 = 0 then ((syntax_Same.f a0 t147 bt164.1 bt164.2.1).bind fun t173 => (some t173)) else (some false))) else (none)) else (none)) else (none)) = some r := by rw [if_neg (show ¬ (false = true) by decide)] at H; exact H
                    clear H
                    have H := H1
                    clear H1
                    by_cases c44 : 1 + a0.size ≤ 9223372036854775807
                    · rw [if_pos c44] at H
                      have c44b0 := eq_true c44
                      have c44b1 : decide (1 + a0.size ≤ 9223372036854775807) = true := decide_eq_true c44
                      try have c44b2 : (9223372036854775807 < 1 + a0.size) = False := eq_false (Nat.not_lt.2 c44)
                      by_cases c45 : ((⟨#[37]⟩ : ByteArray) ++ a0).size + 1 ≤ 9223372036854775807
                      · rw [if_pos c45] at H
                        have c45b0 := eq_true c45
                        have c45b1 : decide (((⟨#[37]⟩ : ByteArray) ++ a0).size + 1 ≤ 9223372036854775807) = true := decide_eq_true c45
                        try have c45b2 : (9223372036854775807 < ((⟨#[37]⟩ : ByteArray) ++ a0).size + 1) = False := eq_false (Nat.not_lt.2 c45)
                        have es1_ : ((⟨#[37]⟩ : ByteArray) ++ a0).size = 1 + a0.size := by rw [ByteArray.size_append]; rfl
                        have cn45 := eq_true (show 1 + a0.size + 1 ≤ 9223372036854775807 by omega)
                        have cm45 := eq_false (show ¬ 9223372036854775807 < 1 + a0.size + 1 by omega)
                        by_cases c46 : (((⟨#[37]⟩ : ByteArray) ++ a0) ++ (⟨#[59]⟩ : ByteArray)).size + a1.size ≤ 9223372036854775807
                        · rw [if_pos c46] at H
                          have c46b0 := eq_true c46
                          have c46b1 : decide ((((⟨#[37]⟩ : ByteArray) ++ a0) ++ (⟨#[59]⟩ : ByteArray)).size + a1.size ≤ 9223372036854775807) = true := decide_eq_true c46
                          try have c46b2 : (9223372036854775807 < (((⟨#[37]⟩ : ByteArray) ++ a0) ++ (⟨#[59]⟩ : ByteArray)).size + a1.size) = False := eq_false (Nat.not_lt.2 c46)
                          have es2_ : (((⟨#[37]⟩ : ByteArray) ++ a0) ++ (⟨#[59]⟩ : ByteArray)).size = 1 + a0.size + 1 := by rw [ByteArray.size_append, es1_]; rfl
                          have cn46 := eq_true (show 1 + a0.size + 1 + a1.size ≤ 9223372036854775807 by omega)
                          have cm46 := eq_false (show ¬ 9223372036854775807 < 1 + a0.size + 1 + a1.size by omega)
                          clear es1_ es2_
                          replace H := Option.bind_eq_some_iff.mp H
                          obtain ⟨⟨t164, t165, t168, t169, t170⟩, A470, H⟩ := H
                          replace H : (if t170 = 0 then ((syntax_Same.f a0 t147 t164 t165).bind fun t173 => (some t173)) else (some false)) = some r := H
                          have A47 := Aside0.mk A470
                          clear A470
                          by_cases c48 : t170 = 0
                          · rw [if_pos c48] at H
                            have c48b0 : (t170 == 0) = true := beq_iff_eq.mpr c48
                            have c48b1 : (t170 != 0) = false := bne_eq_false_iff_eq.mpr c48
                            clear c48
                            replace H := Option.bind_eq_some_iff.mp H
                            obtain ⟨t173, A490, H⟩ := H
                            replace H : (some t173) = some r := H
                            have A49 := Aside0.mk A490
                            clear A490
                            obtain rfl := Option.some.inj H
                            go_wp2_with (first | ((with_reducible refine gate_callee (f := 8) rfl ?_); refine goesL_ (some 57) rfl rfl Try.func8 (by kernel_rfl) rfl #[.string ((((⟨#[37]⟩ : ByteArray) ++ a0) ++ (⟨#[59]⟩ : ByteArray)) ++ a1)] rfl (by (try simp only [List.map_toArray, List.map_cons, List.map_nil]); first | done | rfl | (simp only [List.length_drop, List.length_take]; rfl)) ?_; (with_reducible refine (syntax_Parse.calls ((((⟨#[37]⟩ : ByteArray) ++ a0) ++ (⟨#[59]⟩ : ByteArray)) ++ a1) t164 t165 t168 t169 t170 _ A47.out).mono ?_); rintro e w50 ⟨v166, rfl, ho0, hb⟩; refine ⟨_, rfl, ?_⟩; have n0_ := Aside0.mk (Kd.R_elder' (by (with_reducible repeat (first | apply Kd.R_alloc | apply Kd.R_drewN | apply Kd.R_drew)); exact HO_154001.out) (Kd.R_base ho0) hb); have n1_ := Aside0.mk (Kd.R_lower (Kd.R_new' ho0 (Kd.R_lt (by (with_reducible repeat (first | apply Kd.R_alloc | apply Kd.R_drewN | apply Kd.R_drew)); exact HO_154001.out))) (below_size (by repeat (first | (with_reducible first | exact HB.out | apply below_alloc | apply pw_below_drewN | apply below_drew1 | refine below_set ?_ GE153.out | refine below_set ?_ GE154.out | refine below_set ?_ GE161.out) | exact HB.out)))); have n2_ := Aside0.mk (blk_below (g := gb153) (o := .cells #[.string t146, .slice Ao21 t147.length co21] 25 (0, 0)) (by (with_reducible repeat (first | refine blk_drewN ?_ _ | refine blk_drew ?_ | refine blk_alloc ?_ _)); exact BK153.out) hb); have n3_ := Aside0.mk (blk_below (g := gb154) (o := .cells #[.int .i64 t150, .int .i64 t151, .int .i64 t152] 28 (0, 0)) (by (with_reducible repeat (first | refine blk_drewN ?_ _ | refine blk_drew ?_ | refine blk_alloc ?_ _)); exact BK154.out) hb); have n4_ := Aside0.mk (blk_below (g := gb161) (o := .cells #[.int .i64 t158, .int .i64 t159, .int .i64 t160] 28 (0, 0)) (by (with_reducible repeat (first | refine blk_drewN ?_ _ | refine blk_drew ?_ | refine blk_alloc ?_ _)); exact BK161.out) hb); have n5_ := Aside0.mk (below_step (by repeat (first | (with_reducible first | exact HB.out | apply below_alloc | apply pw_below_drewN | apply below_drew1 | refine below_set ?_ GE153.out | refine below_set ?_ GE154.out | refine below_set ?_ GE161.out) | exact HB.out)) hb); clear HO_154001; clear BK153; clear BK154; clear BK161; clear HB; have HO_154001 := n0_; have HO167 := n1_; have BK153 := n2_; have BK154 := n3_; have BK161 := n4_; have HB := n5_; clear n0_ n1_ n2_ n3_ n4_ n5_; (try clear hb); (try clear hb2); (try clear hk); (try clear hi); (try clear ho0)) | ((with_reducible refine gate_dst (N := 9) rfl ?_); (try (refine gate_guard (by rfl) ?_; dsimp only)); refine box_event ?hg (N := 9) ?hd (cs := #[.string (⟨#[]⟩ : ByteArray), .slice none 0 0]) (t := 25) ?hr ?_; (case hd => rfl); (case hg => rfl); (case hr => first | (go_simp; done) | (go_simp; rfl)); intro gb171 hg w51 hbox hb; have n0_ := Aside0.mk (Kd.R_below (by (with_reducible repeat (first | apply Kd.R_alloc | apply Kd.R_drewN | apply Kd.R_drew)); exact HO_154001.out) hb); have n1_ := Aside0.mk (Kd.R_below (by (with_reducible repeat (first | apply Kd.R_alloc | apply Kd.R_drewN | apply Kd.R_drew)); exact HO167.out) hb); have n2_ := Aside0.mk (blk_below (g := gb153) (o := .cells #[.string t146, .slice Ao21 t147.length co21] 25 (0, 0)) (by (with_reducible repeat (first | refine blk_drewN ?_ _ | refine blk_drew ?_ | refine blk_alloc ?_ _)); exact BK153.out) hb); have n3_ := Aside0.mk (blk_below (g := gb154) (o := .cells #[.int .i64 t150, .int .i64 t151, .int .i64 t152] 28 (0, 0)) (by (with_reducible repeat (first | refine blk_drewN ?_ _ | refine blk_drew ?_ | refine blk_alloc ?_ _)); exact BK154.out) hb); have n4_ := Aside0.mk (blk_below (g := gb161) (o := .cells #[.int .i64 t158, .int .i64 t159, .int .i64 t160] 28 (0, 0)) (by (with_reducible repeat (first | refine blk_drewN ?_ _ | refine blk_drew ?_ | refine blk_alloc ?_ _)); exact BK161.out) hb); have n5_ := Aside0.mk (below_step (by repeat (first | (with_reducible first | exact HB.out | apply below_alloc | apply pw_below_drewN | apply below_drew1 | refine below_set ?_ GE153.out | refine below_set ?_ GE154.out | refine below_set ?_ GE161.out) | exact HB.out)) hb); have n6_ := Aside0.mk (hbox); have n7_ := Aside0.mk ((by rw [hg]; exact (below_size (by repeat (first | (with_reducible first | exact HB.out | apply below_alloc | apply pw_below_drewN | apply below_drew1 | refine below_set ?_ GE153.out | refine below_set ?_ GE154.out | refine below_set ?_ GE161.out) | exact HB.out))) : w.heap.size ≤ gb171)); have n8_ := Aside0.mk ((by rw [hg]; exact (below_size (by repeat (first | (with_reducible first | exact HB.out | apply below_alloc | apply pw_below_drewN | apply below_drew1 | refine below_set ?_ GE153.out | refine below_set ?_ GE154.out | refine below_set ?_ GE161.out) | exact HB.out))) : w.heap.size ≤ gb171)); have n9_ := Aside0.mk ((by rw [hg]; exact Nat.ne_of_lt (blk_lt (g := gb153) (o := .cells #[.string t146, .slice Ao21 t147.length co21] 25 (0, 0)) (by (with_reducible repeat (first | refine blk_drewN ?_ _ | refine blk_drew ?_ | refine blk_alloc ?_ _)); exact BK153.out)) : gb153 ≠ gb171)); have n10_ := Aside0.mk ((by rw [hg]; exact Nat.ne_of_gt (blk_lt (g := gb153) (o := .cells #[.string t146, .slice Ao21 t147.length co21] 25 (0, 0)) (by (with_reducible repeat (first | refine blk_drewN ?_ _ | refine blk_drew ?_ | refine blk_alloc ?_ _)); exact BK153.out)) : gb171 ≠ gb153)); have n11_ := Aside0.mk ((by rw [hg]; exact Nat.ne_of_lt (blk_lt (g := gb154) (o := .cells #[.int .i64 t150, .int .i64 t151, .int .i64 t152] 28 (0, 0)) (by (with_reducible repeat (first | refine blk_drewN ?_ _ | refine blk_drew ?_ | refine blk_alloc ?_ _)); exact BK154.out)) : gb154 ≠ gb171)); have n12_ := Aside0.mk ((by rw [hg]; exact Nat.ne_of_gt (blk_lt (g := gb154) (o := .cells #[.int .i64 t150, .int .i64 t151, .int .i64 t152] 28 (0, 0)) (by (with_reducible repeat (first | refine blk_drewN ?_ _ | refine blk_drew ?_ | refine blk_alloc ?_ _)); exact BK154.out)) : gb171 ≠ gb154)); have n13_ := Aside0.mk ((by rw [hg]; exact Nat.ne_of_lt (blk_lt (g := gb161) (o := .cells #[.int .i64 t158, .int .i64 t159, .int .i64 t160] 28 (0, 0)) (by (with_reducible repeat (first | refine blk_drewN ?_ _ | refine blk_drew ?_ | refine blk_alloc ?_ _)); exact BK161.out)) : gb161 ≠ gb171)); have n14_ := Aside0.mk ((by rw [hg]; exact Nat.ne_of_gt (blk_lt (g := gb161) (o := .cells #[.int .i64 t158, .int .i64 t159, .int .i64 t160] 28 (0, 0)) (by (with_reducible repeat (first | refine blk_drewN ?_ _ | refine blk_drew ?_ | refine blk_alloc ?_ _)); exact BK161.out)) : gb171 ≠ gb161)); clear HO_154001; clear HO167; clear BK153; clear BK154; clear BK161; clear HB; have HO_154001 := n0_; have HO167 := n1_; have BK153 := n2_; have BK154 := n3_; have BK161 := n4_; have HB := n5_; have BK171 := n6_; have GW171 := n7_; have GE171 := n8_; have NB153_171 := n9_; have NB171_153 := n10_; have NB154_171 := n11_; have NB171_154 := n12_; have NB161_171 := n13_; have NB171_161 := n14_; clear n0_ n1_ n2_ n3_ n4_ n5_ n6_ n7_ n8_ n9_ n10_ n11_ n12_ n13_ n14_; clear hb hbox hg) | ((with_reducible refine gate_dst (N := 10) rfl ?_); (try (refine gate_guard (by rfl) ?_; dsimp only)); refine box_event ?hg (N := 10) ?hd (cs := #[.int .i64 0, .int .i64 0, .int .i64 0]) (t := 28) ?hr ?_; (case hd => rfl); (case hg => rfl); (case hr => first | (go_simp; done) | (go_simp; rfl)); intro gb172 hg w52 hbox hb; have n0_ := Aside0.mk (Kd.R_below (by (with_reducible repeat (first | apply Kd.R_alloc | apply Kd.R_drewN | apply Kd.R_drew)); exact HO_154001.out) hb); have n1_ := Aside0.mk (Kd.R_below (by (with_reducible repeat (first | apply Kd.R_alloc | apply Kd.R_drewN | apply Kd.R_drew)); exact HO167.out) hb); have n2_ := Aside0.mk (blk_below (g := gb153) (o := .cells #[.string t146, .slice Ao21 t147.length co21] 25 (0, 0)) (by (with_reducible repeat (first | refine blk_drewN ?_ _ | refine blk_drew ?_ | refine blk_alloc ?_ _)); exact BK153.out) hb); have n3_ := Aside0.mk (blk_below (g := gb154) (o := .cells #[.int .i64 t150, .int .i64 t151, .int .i64 t152] 28 (0, 0)) (by (with_reducible repeat (first | refine blk_drewN ?_ _ | refine blk_drew ?_ | refine blk_alloc ?_ _)); exact BK154.out) hb); have n4_ := Aside0.mk (blk_below (g := gb161) (o := .cells #[.int .i64 t158, .int .i64 t159, .int .i64 t160] 28 (0, 0)) (by (with_reducible repeat (first | refine blk_drewN ?_ _ | refine blk_drew ?_ | refine blk_alloc ?_ _)); exact BK161.out) hb); have n5_ := Aside0.mk (blk_below (g := gb171) (o := .cells #[.string (⟨#[]⟩ : ByteArray), .slice none 0 0] 25 (0, 0)) (by (with_reducible repeat (first | refine blk_drewN ?_ _ | refine blk_drew ?_ | refine blk_alloc ?_ _)); exact BK171.out) hb); have n6_ := Aside0.mk (below_step (by repeat (first | (with_reducible first | exact HB.out | apply below_alloc | apply pw_below_drewN | apply below_drew1 | refine below_set ?_ GE153.out | refine below_set ?_ GE154.out | refine below_set ?_ GE161.out | refine below_set ?_ GE171.out) | exact HB.out)) hb); have n7_ := Aside0.mk (hbox); have n8_ := Aside0.mk ((by rw [hg]; exact (below_size (by repeat (first | (with_reducible first | exact HB.out | apply below_alloc | apply pw_below_drewN | apply below_drew1 | refine below_set ?_ GE153.out | refine below_set ?_ GE154.out | refine below_set ?_ GE161.out | refine below_set ?_ GE171.out) | exact HB.out))) : w.heap.size ≤ gb172)); have n9_ := Aside0.mk ((by rw [hg]; exact (below_size (by repeat (first | (with_reducible first | exact HB.out | apply below_alloc | apply pw_below_drewN | apply below_drew1 | refine below_set ?_ GE153.out | refine below_set ?_ GE154.out | refine below_set ?_ GE161.out | refine below_set ?_ GE171.out) | exact HB.out))) : w.heap.size ≤ gb172)); have n10_ := Aside0.mk ((by rw [hg]; exact Nat.ne_of_lt (blk_lt (g := gb153) (o := .cells #[.string t146, .slice Ao21 t147.length co21] 25 (0, 0)) (by (with_reducible repeat (first | refine blk_drewN ?_ _ | refine blk_drew ?_ | refine blk_alloc ?_ _)); exact BK153.out)) : gb153 ≠ gb172)); have n11_ := Aside0.mk ((by rw [hg]; exact Nat.ne_of_gt (blk_lt (g := gb153) (o := .cells #[.string t146, .slice Ao21 t147.length co21] 25 (0, 0)) (by (with_reducible repeat (first | refine blk_drewN ?_ _ | refine blk_drew ?_ | refine blk_alloc ?_ _)); exact BK153.out)) : gb172 ≠ gb153)); have n12_ := Aside0.mk ((by rw [hg]; exact Nat.ne_of_lt (blk_lt (g := gb154) (o := .cells #[.int .i64 t150, .int .i64 t151, .int .i64 t152] 28 (0, 0)) (by (with_reducible repeat (first | refine blk_drewN ?_ _ | refine blk_drew ?_ | refine blk_alloc ?_ _)); exact BK154.out)) : gb154 ≠ gb172)); have n13_ := Aside0.mk ((by rw [hg]; exact Nat.ne_of_gt (blk_lt (g := gb154) (o := .cells #[.int .i64 t150, .int .i64 t151, .int .i64 t152] 28 (0, 0)) (by (with_reducible repeat (first | refine blk_drewN ?_ _ | refine blk_drew ?_ | refine blk_alloc ?_ _)); exact BK154.out)) : gb172 ≠ gb154)); have n14_ := Aside0.mk ((by rw [hg]; exact Nat.ne_of_lt (blk_lt (g := gb161) (o := .cells #[.int .i64 t158, .int .i64 t159, .int .i64 t160] 28 (0, 0)) (by (with_reducible repeat (first | refine blk_drewN ?_ _ | refine blk_drew ?_ | refine blk_alloc ?_ _)); exact BK161.out)) : gb161 ≠ gb172)); have n15_ := Aside0.mk ((by rw [hg]; exact Nat.ne_of_gt (blk_lt (g := gb161) (o := .cells #[.int .i64 t158, .int .i64 t159, .int .i64 t160] 28 (0, 0)) (by (with_reducible repeat (first | refine blk_drewN ?_ _ | refine blk_drew ?_ | refine blk_alloc ?_ _)); exact BK161.out)) : gb172 ≠ gb161)); have n16_ := Aside0.mk ((by rw [hg]; exact Nat.ne_of_lt (blk_lt (g := gb171) (o := .cells #[.string (⟨#[]⟩ : ByteArray), .slice none 0 0] 25 (0, 0)) (by (with_reducible repeat (first | refine blk_drewN ?_ _ | refine blk_drew ?_ | refine blk_alloc ?_ _)); exact BK171.out)) : gb171 ≠ gb172)); have n17_ := Aside0.mk ((by rw [hg]; exact Nat.ne_of_gt (blk_lt (g := gb171) (o := .cells #[.string (⟨#[]⟩ : ByteArray), .slice none 0 0] 25 (0, 0)) (by (with_reducible repeat (first | refine blk_drewN ?_ _ | refine blk_drew ?_ | refine blk_alloc ?_ _)); exact BK171.out)) : gb172 ≠ gb171)); clear HO_154001; clear HO167; clear BK153; clear BK154; clear BK161; clear BK171; clear HB; have HO_154001 := n0_; have HO167 := n1_; have BK153 := n2_; have BK154 := n3_; have BK161 := n4_; have BK171 := n5_; have HB := n6_; have BK172 := n7_; have GW172 := n8_; have GE172 := n9_; have NB153_172 := n10_; have NB172_153 := n11_; have NB154_172 := n12_; have NB172_154 := n13_; have NB161_172 := n14_; have NB172_161 := n15_; have NB171_172 := n16_; have NB172_171 := n17_; clear n0_ n1_ n2_ n3_ n4_ n5_ n6_ n7_ n8_ n9_ n10_ n11_ n12_ n13_ n14_ n15_ n16_ n17_; clear hb hbox hg; have hnb53 := NB171_153.out; have hnc53 := NB153_171.out; have hnb54 := NB171_154.out; have hnc54 := NB154_171.out; have hnb55 := NB171_161.out; have hnc55 := NB161_171.out; have hnb56 := NB171_172.out; have hnc56 := NB172_171.out; have hcz57_0 : w52.cell? ⟨gb171, 0, none⟩ = some (.string (⟨#[]⟩ : ByteArray)) := (blk_cell BK171.out 0).trans rfl; have hcz57_1 : w52.cell? ⟨gb171, 1, none⟩ = some (.slice none 0 0) := (blk_cell BK171.out 1).trans rfl; have hfz57_0 := blk_frozen BK171.out 0; have hfz57_1 := blk_frozen BK171.out 1; obtain ⟨Ao58, co58, eo58⟩ := Kd.R_slice HO167.out; subst eo58; have hnb59 := NB172_153.out; have hnc59 := NB153_172.out; have hnb60 := NB172_154.out; have hnc60 := NB154_172.out; have hnb61 := NB172_161.out; have hnc61 := NB161_172.out; have hcz62_0 : w52.cell? ⟨gb172, 0, none⟩ = some (.int .i64 0) := (blk_cell BK172.out 0).trans rfl; have hcz62_1 : w52.cell? ⟨gb172, 1, none⟩ = some (.int .i64 0) := (blk_cell BK172.out 1).trans rfl; have hcz62_2 : w52.cell? ⟨gb172, 2, none⟩ = some (.int .i64 0) := (blk_cell BK172.out 2).trans rfl; have hfz62_0 := blk_frozen BK172.out 0; have hfz62_1 := blk_frozen BK172.out 1; have hfz62_2 := blk_frozen BK172.out 2; have hnb63 := NB153_154.out; have hnc63 := NB154_153.out; have hnb64 := NB153_161.out; have hnc64 := NB161_153.out; have hcz65_0 : w52.cell? ⟨gb153, 0, none⟩ = some (.string t146) := (blk_cell BK153.out 0).trans rfl; have hcz65_1 : w52.cell? ⟨gb153, 1, none⟩ = some (.slice Ao21 t147.length co21) := (blk_cell BK153.out 1).trans rfl; have hfz65_0 := blk_frozen BK153.out 0; have hfz65_1 := blk_frozen BK153.out 1) | (go_at_call 17; (with_reducible refine (syntax_Same.calls a0 _ _ t147 t164 _ _ t165 t173 _ ?side1 ?side2 ?side3 ?side4 A49.out).mono ?_); (case side1 => refine (Kd.R_reads' (e := 51) (base := w.heap.size) (ok := fun k_ => (True ∧ some k_ ≠ (.slice Ao58 t165.length co58 : Value).ownBlock)) (n := t147.length) (c := co21) ?_).2.2; exact (by (with_reducible repeat (first | apply Kd.R_alloc | apply Kd.R_drewN | apply Kd.R_drew)); exact (Kd.R_mono (Kd.R_mono (Kd.R_mono (Kd.R_far (p := ⟨gb153, 0, none⟩) (Kd.R_far (p := ⟨gb172, 2, none⟩) (Kd.R_far (p := ⟨gb172, 1, none⟩) (Kd.R_far (p := ⟨gb172, 0, none⟩) (Kd.R_far (p := ⟨gb171, 1, none⟩) (Kd.R_far (p := ⟨gb171, 0, none⟩) (Kd.R_types (Kd.R_types (Kd.R_types HO_154001.out BK171.out (by decide)) BK172.out (by decide)) BK153.out (by decide)) (fun _ hk => hk.1.1.2) (.string t164)) (fun _ hk => hk.1.1.2) (.slice Ao58 t165.length co58)) (fun _ hk => hk.1.2) (.int .i64 t168)) (fun _ hk => hk.1.2) (.int .i64 t169)) (fun _ hk => hk.1.2) (.int .i64 t170)) (fun _ hk => hk.2) (.string a0)) (fun _ h_ => h_.1)) (fun _ h_ => h_.1)) (fun _ h_ => h_.1)))); (case side2 => exact (Kd.R_reads' HO_154001.out).2.1); (case side3 => refine (Kd.R_reads' (e := 51) (base := w.heap.size) (ok := fun k_ => (True ∧ some k_ ≠ (.slice Ao21 t147.length co21 : Value).ownBlock)) (n := t165.length) (c := co58) ?_).2.2; exact (by (with_reducible repeat (first | apply Kd.R_alloc | apply Kd.R_drewN | apply Kd.R_drew)); exact (Kd.R_mono (Kd.R_mono (Kd.R_mono (Kd.R_far (p := ⟨gb153, 0, none⟩) (Kd.R_far (p := ⟨gb172, 2, none⟩) (Kd.R_far (p := ⟨gb172, 1, none⟩) (Kd.R_far (p := ⟨gb172, 0, none⟩) (Kd.R_far (p := ⟨gb171, 1, none⟩) (Kd.R_far (p := ⟨gb171, 0, none⟩) (Kd.R_types (Kd.R_types (Kd.R_types HO167.out BK171.out (by decide)) BK172.out (by decide)) BK153.out (by decide)) (fun _ hk => hk.1.1.2) (.string t164)) (fun _ hk => hk.1.1.2) (.slice Ao58 t165.length co58)) (fun _ hk => hk.1.2) (.int .i64 t168)) (fun _ hk => hk.1.2) (.int .i64 t169)) (fun _ hk => hk.1.2) (.int .i64 t170)) (fun _ hk => hk.2) (.string a0)) (fun _ h_ => h_.1)) (fun _ h_ => h_.1)) (fun _ h_ => h_.1)))); (case side4 => exact (Kd.R_reads' HO167.out).2.1); rintro e w66 ⟨rfl, hb⟩; have n0_ := Aside0.mk (Kd.R_below (by (with_reducible repeat (first | apply Kd.R_alloc | apply Kd.R_drewN | apply Kd.R_drew)); exact (Kd.R_mono (Kd.R_mono (Kd.R_mono (Kd.R_far (p := ⟨gb153, 0, none⟩) (Kd.R_far (p := ⟨gb172, 2, none⟩) (Kd.R_far (p := ⟨gb172, 1, none⟩) (Kd.R_far (p := ⟨gb172, 0, none⟩) (Kd.R_far (p := ⟨gb171, 1, none⟩) (Kd.R_far (p := ⟨gb171, 0, none⟩) (Kd.R_types (Kd.R_types (Kd.R_types HO_154001.out BK171.out (by decide)) BK172.out (by decide)) BK153.out (by decide)) (fun _ hk => hk.1.1.2) (.string t164)) (fun _ hk => hk.1.1.2) (.slice Ao58 t165.length co58)) (fun _ hk => hk.1.2) (.int .i64 t168)) (fun _ hk => hk.1.2) (.int .i64 t169)) (fun _ hk => hk.1.2) (.int .i64 t170)) (fun _ hk => hk.2) (.string a0)) (fun _ h_ => h_.1)) (fun _ h_ => h_.1)) (fun _ h_ => h_.1))) hb); have n1_ := Aside0.mk (Kd.R_below (by (with_reducible repeat (first | apply Kd.R_alloc | apply Kd.R_drewN | apply Kd.R_drew)); exact (Kd.R_mono (Kd.R_mono (Kd.R_mono (Kd.R_far (p := ⟨gb153, 0, none⟩) (Kd.R_far (p := ⟨gb172, 2, none⟩) (Kd.R_far (p := ⟨gb172, 1, none⟩) (Kd.R_far (p := ⟨gb172, 0, none⟩) (Kd.R_far (p := ⟨gb171, 1, none⟩) (Kd.R_far (p := ⟨gb171, 0, none⟩) (Kd.R_types (Kd.R_types (Kd.R_types HO167.out BK171.out (by decide)) BK172.out (by decide)) BK153.out (by decide)) (fun _ hk => hk.1.1.2) (.string t164)) (fun _ hk => hk.1.1.2) (.slice Ao58 t165.length co58)) (fun _ hk => hk.1.2) (.int .i64 t168)) (fun _ hk => hk.1.2) (.int .i64 t169)) (fun _ hk => hk.1.2) (.int .i64 t170)) (fun _ hk => hk.2) (.string a0)) (fun _ h_ => h_.1)) (fun _ h_ => h_.1)) (fun _ h_ => h_.1))) hb); have n2_ := Aside0.mk (blk_below (g := gb153) (o := .cells #[.string a0, .slice Ao21 t147.length co21] 25 (0, 0)) (by (with_reducible repeat (first | refine blk_drewN ?_ _ | refine blk_drew ?_ | refine blk_alloc ?_ _)); refine blk_put (cs := #[.string t146, .slice Ao21 t147.length co21]) ?_ 0 _ rfl; (with_reducible repeat (first | refine blk_drewN ?_ _ | refine blk_drew ?_ | refine blk_alloc ?_ _)); refine blk_far ?_ NB153_172.out _; (with_reducible repeat (first | refine blk_drewN ?_ _ | refine blk_drew ?_ | refine blk_alloc ?_ _)); refine blk_far ?_ NB153_172.out _; (with_reducible repeat (first | refine blk_drewN ?_ _ | refine blk_drew ?_ | refine blk_alloc ?_ _)); refine blk_far ?_ NB153_172.out _; (with_reducible repeat (first | refine blk_drewN ?_ _ | refine blk_drew ?_ | refine blk_alloc ?_ _)); refine blk_far ?_ NB153_171.out _; (with_reducible repeat (first | refine blk_drewN ?_ _ | refine blk_drew ?_ | refine blk_alloc ?_ _)); refine blk_far ?_ NB153_171.out _; (with_reducible repeat (first | refine blk_drewN ?_ _ | refine blk_drew ?_ | refine blk_alloc ?_ _)); exact BK153.out) hb); have n3_ := Aside0.mk (blk_below (g := gb154) (o := .cells #[.int .i64 t150, .int .i64 t151, .int .i64 t152] 28 (0, 0)) (by (with_reducible repeat (first | refine blk_drewN ?_ _ | refine blk_drew ?_ | refine blk_alloc ?_ _)); refine blk_far ?_ NB154_153.out _; (with_reducible repeat (first | refine blk_drewN ?_ _ | refine blk_drew ?_ | refine blk_alloc ?_ _)); refine blk_far ?_ NB154_172.out _; (with_reducible repeat (first | refine blk_drewN ?_ _ | refine blk_drew ?_ | refine blk_alloc ?_ _)); refine blk_far ?_ NB154_172.out _; (with_reducible repeat (first | refine blk_drewN ?_ _ | refine blk_drew ?_ | refine blk_alloc ?_ _)); refine blk_far ?_ NB154_172.out _; (with_reducible repeat (first | refine blk_drewN ?_ _ | refine blk_drew ?_ | refine blk_alloc ?_ _)); refine blk_far ?_ NB154_171.out _; (with_reducible repeat (first | refine blk_drewN ?_ _ | refine blk_drew ?_ | refine blk_alloc ?_ _)); refine blk_far ?_ NB154_171.out _; (with_reducible repeat (first | refine blk_drewN ?_ _ | refine blk_drew ?_ | refine blk_alloc ?_ _)); exact BK154.out) hb); have n4_ := Aside0.mk (blk_below (g := gb161) (o := .cells #[.int .i64 t158, .int .i64 t159, .int .i64 t160] 28 (0, 0)) (by (with_reducible repeat (first | refine blk_drewN ?_ _ | refine blk_drew ?_ | refine blk_alloc ?_ _)); refine blk_far ?_ NB161_153.out _; (with_reducible repeat (first | refine blk_drewN ?_ _ | refine blk_drew ?_ | refine blk_alloc ?_ _)); refine blk_far ?_ NB161_172.out _; (with_reducible repeat (first | refine blk_drewN ?_ _ | refine blk_drew ?_ | refine blk_alloc ?_ _)); refine blk_far ?_ NB161_172.out _; (with_reducible repeat (first | refine blk_drewN ?_ _ | refine blk_drew ?_ | refine blk_alloc ?_ _)); refine blk_far ?_ NB161_172.out _; (with_reducible repeat (first | refine blk_drewN ?_ _ | refine blk_drew ?_ | refine blk_alloc ?_ _)); refine blk_far ?_ NB161_171.out _; (with_reducible repeat (first | refine blk_drewN ?_ _ | refine blk_drew ?_ | refine blk_alloc ?_ _)); refine blk_far ?_ NB161_171.out _; (with_reducible repeat (first | refine blk_drewN ?_ _ | refine blk_drew ?_ | refine blk_alloc ?_ _)); exact BK161.out) hb); have n5_ := Aside0.mk (blk_below (g := gb171) (o := .cells #[.string t164, .slice Ao58 t165.length co58] 25 (0, 0)) (by (with_reducible repeat (first | refine blk_drewN ?_ _ | refine blk_drew ?_ | refine blk_alloc ?_ _)); refine blk_far ?_ NB171_153.out _; (with_reducible repeat (first | refine blk_drewN ?_ _ | refine blk_drew ?_ | refine blk_alloc ?_ _)); refine blk_far ?_ NB171_172.out _; (with_reducible repeat (first | refine blk_drewN ?_ _ | refine blk_drew ?_ | refine blk_alloc ?_ _)); refine blk_far ?_ NB171_172.out _; (with_reducible repeat (first | refine blk_drewN ?_ _ | refine blk_drew ?_ | refine blk_alloc ?_ _)); refine blk_far ?_ NB171_172.out _; (with_reducible repeat (first | refine blk_drewN ?_ _ | refine blk_drew ?_ | refine blk_alloc ?_ _)); refine blk_put (cs := #[.string t164, .slice none 0 0]) ?_ 1 _ rfl; (with_reducible repeat (first | refine blk_drewN ?_ _ | refine blk_drew ?_ | refine blk_alloc ?_ _)); refine blk_put (cs := #[.string (⟨#[]⟩ : ByteArray), .slice none 0 0]) ?_ 0 _ rfl; (with_reducible repeat (first | refine blk_drewN ?_ _ | refine blk_drew ?_ | refine blk_alloc ?_ _)); exact BK171.out) hb); have n6_ := Aside0.mk (blk_below (g := gb172) (o := .cells #[.int .i64 t168, .int .i64 t169, .int .i64 t170] 28 (0, 0)) (by (with_reducible repeat (first | refine blk_drewN ?_ _ | refine blk_drew ?_ | refine blk_alloc ?_ _)); refine blk_far ?_ NB172_153.out _; (with_reducible repeat (first | refine blk_drewN ?_ _ | refine blk_drew ?_ | refine blk_alloc ?_ _)); refine blk_put (cs := #[.int .i64 t168, .int .i64 t169, .int .i64 0]) ?_ 2 _ rfl; (with_reducible repeat (first | refine blk_drewN ?_ _ | refine blk_drew ?_ | refine blk_alloc ?_ _)); refine blk_put (cs := #[.int .i64 t168, .int .i64 0, .int .i64 0]) ?_ 1 _ rfl; (with_reducible repeat (first | refine blk_drewN ?_ _ | refine blk_drew ?_ | refine blk_alloc ?_ _)); refine blk_put (cs := #[.int .i64 0, .int .i64 0, .int .i64 0]) ?_ 0 _ rfl; (with_reducible repeat (first | refine blk_drewN ?_ _ | refine blk_drew ?_ | refine blk_alloc ?_ _)); refine blk_far ?_ NB172_171.out _; (with_reducible repeat (first | refine blk_drewN ?_ _ | refine blk_drew ?_ | refine blk_alloc ?_ _)); refine blk_far ?_ NB172_171.out _; (with_reducible repeat (first | refine blk_drewN ?_ _ | refine blk_drew ?_ | refine blk_alloc ?_ _)); exact BK172.out) hb); have n7_ := Aside0.mk (below_step (by repeat (first | (with_reducible first | exact HB.out | apply below_alloc | apply pw_below_drewN | apply below_drew1 | refine below_set ?_ GE153.out | refine below_set ?_ GE154.out | refine below_set ?_ GE161.out | refine below_set ?_ GE171.out | refine below_set ?_ GE172.out) | exact HB.out)) hb); clear HO_154001; clear HO167; clear BK153; clear BK154; clear BK161; clear BK171; clear BK172; clear HB; have HO_154001 := n0_; have HO167 := n1_; have BK153 := n2_; have BK154 := n3_; have BK161 := n4_; have BK171 := n5_; have BK172 := n6_; have HB := n7_; clear n0_ n1_ n2_ n3_ n4_ n5_ n6_ n7_; (try clear hb); (try clear hb2); (try clear hk); (try clear hi)))
                            go_ret
                            exact ⟨by first | rfl | (simp [errW_none, errW_some] <;> rfl) | (simp [*, errW_none, errW_some] <;> rfl), by repeat (first | (with_reducible first | exact HB.out | apply below_alloc | apply pw_below_drewN | apply below_drew1 | refine below_set ?_ GE153.out | refine below_set ?_ GE154.out | refine below_set ?_ GE161.out | refine below_set ?_ GE171.out | refine below_set ?_ GE172.out) | exact HB.out)⟩
                          · rw [if_neg c48] at H
                            have c48b0 : (t170 == 0) = false := beq_eq_false_iff_ne.mpr c48
                            have c48b1 : (t170 != 0) = true := bne_iff_ne.mpr c48
                            obtain rfl := Option.some.inj H
                            go_wp2_with (first | ((with_reducible refine gate_callee (f := 8) rfl ?_); refine goesL_ (some 57) rfl rfl Try.func8 (by kernel_rfl) rfl #[.string ((((⟨#[37]⟩ : ByteArray) ++ a0) ++ (⟨#[59]⟩ : ByteArray)) ++ a1)] rfl (by (try simp only [List.map_toArray, List.map_cons, List.map_nil]); first | done | rfl | (simp only [List.length_drop, List.length_take]; rfl)) ?_; (with_reducible refine (syntax_Parse.calls ((((⟨#[37]⟩ : ByteArray) ++ a0) ++ (⟨#[59]⟩ : ByteArray)) ++ a1) t164 t165 t168 t169 t170 _ A47.out).mono ?_); rintro e w67 ⟨v166, rfl, ho0, hb⟩; refine ⟨_, rfl, ?_⟩; have n0_ := Aside0.mk (Kd.R_elder' (by (with_reducible repeat (first | apply Kd.R_alloc | apply Kd.R_drewN | apply Kd.R_drew)); exact HO_154001.out) (Kd.R_base ho0) hb); have n1_ := Aside0.mk (Kd.R_lower (Kd.R_new' ho0 (Kd.R_lt (by (with_reducible repeat (first | apply Kd.R_alloc | apply Kd.R_drewN | apply Kd.R_drew)); exact HO_154001.out))) (below_size (by repeat (first | (with_reducible first | exact HB.out | apply below_alloc | apply pw_below_drewN | apply below_drew1 | refine below_set ?_ GE153.out | refine below_set ?_ GE154.out | refine below_set ?_ GE161.out) | exact HB.out)))); have n2_ := Aside0.mk (blk_below (g := gb153) (o := .cells #[.string t146, .slice Ao21 t147.length co21] 25 (0, 0)) (by (with_reducible repeat (first | refine blk_drewN ?_ _ | refine blk_drew ?_ | refine blk_alloc ?_ _)); exact BK153.out) hb); have n3_ := Aside0.mk (blk_below (g := gb154) (o := .cells #[.int .i64 t150, .int .i64 t151, .int .i64 t152] 28 (0, 0)) (by (with_reducible repeat (first | refine blk_drewN ?_ _ | refine blk_drew ?_ | refine blk_alloc ?_ _)); exact BK154.out) hb); have n4_ := Aside0.mk (blk_below (g := gb161) (o := .cells #[.int .i64 t158, .int .i64 t159, .int .i64 t160] 28 (0, 0)) (by (with_reducible repeat (first | refine blk_drewN ?_ _ | refine blk_drew ?_ | refine blk_alloc ?_ _)); exact BK161.out) hb); have n5_ := Aside0.mk (below_step (by repeat (first | (with_reducible first | exact HB.out | apply below_alloc | apply pw_below_drewN | apply below_drew1 | refine below_set ?_ GE153.out | refine below_set ?_ GE154.out | refine below_set ?_ GE161.out) | exact HB.out)) hb); clear HO_154001; clear BK153; clear BK154; clear BK161; clear HB; have HO_154001 := n0_; have HO167 := n1_; have BK153 := n2_; have BK154 := n3_; have BK161 := n4_; have HB := n5_; clear n0_ n1_ n2_ n3_ n4_ n5_; (try clear hb); (try clear hb2); (try clear hk); (try clear hi); (try clear ho0)) | ((with_reducible refine gate_dst (N := 9) rfl ?_); (try (refine gate_guard (by rfl) ?_; dsimp only)); refine box_event ?hg (N := 9) ?hd (cs := #[.string (⟨#[]⟩ : ByteArray), .slice none 0 0]) (t := 25) ?hr ?_; (case hd => rfl); (case hg => rfl); (case hr => first | (go_simp; done) | (go_simp; rfl)); intro gb171 hg w68 hbox hb; have n0_ := Aside0.mk (Kd.R_below (by (with_reducible repeat (first | apply Kd.R_alloc | apply Kd.R_drewN | apply Kd.R_drew)); exact HO_154001.out) hb); have n1_ := Aside0.mk (Kd.R_below (by (with_reducible repeat (first | apply Kd.R_alloc | apply Kd.R_drewN | apply Kd.R_drew)); exact HO167.out) hb); have n2_ := Aside0.mk (blk_below (g := gb153) (o := .cells #[.string t146, .slice Ao21 t147.length co21] 25 (0, 0)) (by (with_reducible repeat (first | refine blk_drewN ?_ _ | refine blk_drew ?_ | refine blk_alloc ?_ _)); exact BK153.out) hb); have n3_ := Aside0.mk (blk_below (g := gb154) (o := .cells #[.int .i64 t150, .int .i64 t151, .int .i64 t152] 28 (0, 0)) (by (with_reducible repeat (first | refine blk_drewN ?_ _ | refine blk_drew ?_ | refine blk_alloc ?_ _)); exact BK154.out) hb); have n4_ := Aside0.mk (blk_below (g := gb161) (o := .cells #[.int .i64 t158, .int .i64 t159, .int .i64 t160] 28 (0, 0)) (by (with_reducible repeat (first | refine blk_drewN ?_ _ | refine blk_drew ?_ | refine blk_alloc ?_ _)); exact BK161.out) hb); have n5_ := Aside0.mk (below_step (by repeat (first | (with_reducible first | exact HB.out | apply below_alloc | apply pw_below_drewN | apply below_drew1 | refine below_set ?_ GE153.out | refine below_set ?_ GE154.out | refine below_set ?_ GE161.out) | exact HB.out)) hb); have n6_ := Aside0.mk (hbox); have n7_ := Aside0.mk ((by rw [hg]; exact (below_size (by repeat (first | (with_reducible first | exact HB.out | apply below_alloc | apply pw_below_drewN | apply below_drew1 | refine below_set ?_ GE153.out | refine below_set ?_ GE154.out | refine below_set ?_ GE161.out) | exact HB.out))) : w.heap.size ≤ gb171)); have n8_ := Aside0.mk ((by rw [hg]; exact (below_size (by repeat (first | (with_reducible first | exact HB.out | apply below_alloc | apply pw_below_drewN | apply below_drew1 | refine below_set ?_ GE153.out | refine below_set ?_ GE154.out | refine below_set ?_ GE161.out) | exact HB.out))) : w.heap.size ≤ gb171)); have n9_ := Aside0.mk ((by rw [hg]; exact Nat.ne_of_lt (blk_lt (g := gb153) (o := .cells #[.string t146, .slice Ao21 t147.length co21] 25 (0, 0)) (by (with_reducible repeat (first | refine blk_drewN ?_ _ | refine blk_drew ?_ | refine blk_alloc ?_ _)); exact BK153.out)) : gb153 ≠ gb171)); have n10_ := Aside0.mk ((by rw [hg]; exact Nat.ne_of_gt (blk_lt (g := gb153) (o := .cells #[.string t146, .slice Ao21 t147.length co21] 25 (0, 0)) (by (with_reducible repeat (first | refine blk_drewN ?_ _ | refine blk_drew ?_ | refine blk_alloc ?_ _)); exact BK153.out)) : gb171 ≠ gb153)); have n11_ := Aside0.mk ((by rw [hg]; exact Nat.ne_of_lt (blk_lt (g := gb154) (o := .cells #[.int .i64 t150, .int .i64 t151, .int .i64 t152] 28 (0, 0)) (by (with_reducible repeat (first | refine blk_drewN ?_ _ | refine blk_drew ?_ | refine blk_alloc ?_ _)); exact BK154.out)) : gb154 ≠ gb171)); have n12_ := Aside0.mk ((by rw [hg]; exact Nat.ne_of_gt (blk_lt (g := gb154) (o := .cells #[.int .i64 t150, .int .i64 t151, .int .i64 t152] 28 (0, 0)) (by (with_reducible repeat (first | refine blk_drewN ?_ _ | refine blk_drew ?_ | refine blk_alloc ?_ _)); exact BK154.out)) : gb171 ≠ gb154)); have n13_ := Aside0.mk ((by rw [hg]; exact Nat.ne_of_lt (blk_lt (g := gb161) (o := .cells #[.int .i64 t158, .int .i64 t159, .int .i64 t160] 28 (0, 0)) (by (with_reducible repeat (first | refine blk_drewN ?_ _ | refine blk_drew ?_ | refine blk_alloc ?_ _)); exact BK161.out)) : gb161 ≠ gb171)); have n14_ := Aside0.mk ((by rw [hg]; exact Nat.ne_of_gt (blk_lt (g := gb161) (o := .cells #[.int .i64 t158, .int .i64 t159, .int .i64 t160] 28 (0, 0)) (by (with_reducible repeat (first | refine blk_drewN ?_ _ | refine blk_drew ?_ | refine blk_alloc ?_ _)); exact BK161.out)) : gb171 ≠ gb161)); clear HO_154001; clear HO167; clear BK153; clear BK154; clear BK161; clear HB; have HO_154001 := n0_; have HO167 := n1_; have BK153 := n2_; have BK154 := n3_; have BK161 := n4_; have HB := n5_; have BK171 := n6_; have GW171 := n7_; have GE171 := n8_; have NB153_171 := n9_; have NB171_153 := n10_; have NB154_171 := n11_; have NB171_154 := n12_; have NB161_171 := n13_; have NB171_161 := n14_; clear n0_ n1_ n2_ n3_ n4_ n5_ n6_ n7_ n8_ n9_ n10_ n11_ n12_ n13_ n14_; clear hb hbox hg) | ((with_reducible refine gate_dst (N := 10) rfl ?_); (try (refine gate_guard (by rfl) ?_; dsimp only)); refine box_event ?hg (N := 10) ?hd (cs := #[.int .i64 0, .int .i64 0, .int .i64 0]) (t := 28) ?hr ?_; (case hd => rfl); (case hg => rfl); (case hr => first | (go_simp; done) | (go_simp; rfl)); intro gb172 hg w69 hbox hb; have n0_ := Aside0.mk (Kd.R_below (by (with_reducible repeat (first | apply Kd.R_alloc | apply Kd.R_drewN | apply Kd.R_drew)); exact HO_154001.out) hb); have n1_ := Aside0.mk (Kd.R_below (by (with_reducible repeat (first | apply Kd.R_alloc | apply Kd.R_drewN | apply Kd.R_drew)); exact HO167.out) hb); have n2_ := Aside0.mk (blk_below (g := gb153) (o := .cells #[.string t146, .slice Ao21 t147.length co21] 25 (0, 0)) (by (with_reducible repeat (first | refine blk_drewN ?_ _ | refine blk_drew ?_ | refine blk_alloc ?_ _)); exact BK153.out) hb); have n3_ := Aside0.mk (blk_below (g := gb154) (o := .cells #[.int .i64 t150, .int .i64 t151, .int .i64 t152] 28 (0, 0)) (by (with_reducible repeat (first | refine blk_drewN ?_ _ | refine blk_drew ?_ | refine blk_alloc ?_ _)); exact BK154.out) hb); have n4_ := Aside0.mk (blk_below (g := gb161) (o := .cells #[.int .i64 t158, .int .i64 t159, .int .i64 t160] 28 (0, 0)) (by (with_reducible repeat (first | refine blk_drewN ?_ _ | refine blk_drew ?_ | refine blk_alloc ?_ _)); exact BK161.out) hb); have n5_ := Aside0.mk (blk_below (g := gb171) (o := .cells #[.string (⟨#[]⟩ : ByteArray), .slice none 0 0] 25 (0, 0)) (by (with_reducible repeat (first | refine blk_drewN ?_ _ | refine blk_drew ?_ | refine blk_alloc ?_ _)); exact BK171.out) hb); have n6_ := Aside0.mk (below_step (by repeat (first | (with_reducible first | exact HB.out | apply below_alloc | apply pw_below_drewN | apply below_drew1 | refine below_set ?_ GE153.out | refine below_set ?_ GE154.out | refine below_set ?_ GE161.out | refine below_set ?_ GE171.out) | exact HB.out)) hb); have n7_ := Aside0.mk (hbox); have n8_ := Aside0.mk ((by rw [hg]; exact (below_size (by repeat (first | (with_reducible first | exact HB.out | apply below_alloc | apply pw_below_drewN | apply below_drew1 | refine below_set ?_ GE153.out | refine below_set ?_ GE154.out | refine below_set ?_ GE161.out | refine below_set ?_ GE171.out) | exact HB.out))) : w.heap.size ≤ gb172)); have n9_ := Aside0.mk ((by rw [hg]; exact (below_size (by repeat (first | (with_reducible first | exact HB.out | apply below_alloc | apply pw_below_drewN | apply below_drew1 | refine below_set ?_ GE153.out | refine below_set ?_ GE154.out | refine below_set ?_ GE161.out | refine below_set ?_ GE171.out) | exact HB.out))) : w.heap.size ≤ gb172)); have n10_ := Aside0.mk ((by rw [hg]; exact Nat.ne_of_lt (blk_lt (g := gb153) (o := .cells #[.string t146, .slice Ao21 t147.length co21] 25 (0, 0)) (by (with_reducible repeat (first | refine blk_drewN ?_ _ | refine blk_drew ?_ | refine blk_alloc ?_ _)); exact BK153.out)) : gb153 ≠ gb172)); have n11_ := Aside0.mk ((by rw [hg]; exact Nat.ne_of_gt (blk_lt (g := gb153) (o := .cells #[.string t146, .slice Ao21 t147.length co21] 25 (0, 0)) (by (with_reducible repeat (first | refine blk_drewN ?_ _ | refine blk_drew ?_ | refine blk_alloc ?_ _)); exact BK153.out)) : gb172 ≠ gb153)); have n12_ := Aside0.mk ((by rw [hg]; exact Nat.ne_of_lt (blk_lt (g := gb154) (o := .cells #[.int .i64 t150, .int .i64 t151, .int .i64 t152] 28 (0, 0)) (by (with_reducible repeat (first | refine blk_drewN ?_ _ | refine blk_drew ?_ | refine blk_alloc ?_ _)); exact BK154.out)) : gb154 ≠ gb172)); have n13_ := Aside0.mk ((by rw [hg]; exact Nat.ne_of_gt (blk_lt (g := gb154) (o := .cells #[.int .i64 t150, .int .i64 t151, .int .i64 t152] 28 (0, 0)) (by (with_reducible repeat (first | refine blk_drewN ?_ _ | refine blk_drew ?_ | refine blk_alloc ?_ _)); exact BK154.out)) : gb172 ≠ gb154)); have n14_ := Aside0.mk ((by rw [hg]; exact Nat.ne_of_lt (blk_lt (g := gb161) (o := .cells #[.int .i64 t158, .int .i64 t159, .int .i64 t160] 28 (0, 0)) (by (with_reducible repeat (first | refine blk_drewN ?_ _ | refine blk_drew ?_ | refine blk_alloc ?_ _)); exact BK161.out)) : gb161 ≠ gb172)); have n15_ := Aside0.mk ((by rw [hg]; exact Nat.ne_of_gt (blk_lt (g := gb161) (o := .cells #[.int .i64 t158, .int .i64 t159, .int .i64 t160] 28 (0, 0)) (by (with_reducible repeat (first | refine blk_drewN ?_ _ | refine blk_drew ?_ | refine blk_alloc ?_ _)); exact BK161.out)) : gb172 ≠ gb161)); have n16_ := Aside0.mk ((by rw [hg]; exact Nat.ne_of_lt (blk_lt (g := gb171) (o := .cells #[.string (⟨#[]⟩ : ByteArray), .slice none 0 0] 25 (0, 0)) (by (with_reducible repeat (first | refine blk_drewN ?_ _ | refine blk_drew ?_ | refine blk_alloc ?_ _)); exact BK171.out)) : gb171 ≠ gb172)); have n17_ := Aside0.mk ((by rw [hg]; exact Nat.ne_of_gt (blk_lt (g := gb171) (o := .cells #[.string (⟨#[]⟩ : ByteArray), .slice none 0 0] 25 (0, 0)) (by (with_reducible repeat (first | refine blk_drewN ?_ _ | refine blk_drew ?_ | refine blk_alloc ?_ _)); exact BK171.out)) : gb172 ≠ gb171)); clear HO_154001; clear HO167; clear BK153; clear BK154; clear BK161; clear BK171; clear HB; have HO_154001 := n0_; have HO167 := n1_; have BK153 := n2_; have BK154 := n3_; have BK161 := n4_; have BK171 := n5_; have HB := n6_; have BK172 := n7_; have GW172 := n8_; have GE172 := n9_; have NB153_172 := n10_; have NB172_153 := n11_; have NB154_172 := n12_; have NB172_154 := n13_; have NB161_172 := n14_; have NB172_161 := n15_; have NB171_172 := n16_; have NB172_171 := n17_; clear n0_ n1_ n2_ n3_ n4_ n5_ n6_ n7_ n8_ n9_ n10_ n11_ n12_ n13_ n14_ n15_ n16_ n17_; clear hb hbox hg; have hnb70 := NB171_153.out; have hnc70 := NB153_171.out; have hnb71 := NB171_154.out; have hnc71 := NB154_171.out; have hnb72 := NB171_161.out; have hnc72 := NB161_171.out; have hnb73 := NB171_172.out; have hnc73 := NB172_171.out; have hcz74_0 : w69.cell? ⟨gb171, 0, none⟩ = some (.string (⟨#[]⟩ : ByteArray)) := (blk_cell BK171.out 0).trans rfl; have hcz74_1 : w69.cell? ⟨gb171, 1, none⟩ = some (.slice none 0 0) := (blk_cell BK171.out 1).trans rfl; have hfz74_0 := blk_frozen BK171.out 0; have hfz74_1 := blk_frozen BK171.out 1; obtain ⟨Ao75, co75, eo75⟩ := Kd.R_slice HO167.out; subst eo75; have hnb76 := NB172_153.out; have hnc76 := NB153_172.out; have hnb77 := NB172_154.out; have hnc77 := NB154_172.out; have hnb78 := NB172_161.out; have hnc78 := NB161_172.out; have hcz79_0 : w69.cell? ⟨gb172, 0, none⟩ = some (.int .i64 0) := (blk_cell BK172.out 0).trans rfl; have hcz79_1 : w69.cell? ⟨gb172, 1, none⟩ = some (.int .i64 0) := (blk_cell BK172.out 1).trans rfl; have hcz79_2 : w69.cell? ⟨gb172, 2, none⟩ = some (.int .i64 0) := (blk_cell BK172.out 2).trans rfl; have hfz79_0 := blk_frozen BK172.out 0; have hfz79_1 := blk_frozen BK172.out 1; have hfz79_2 := blk_frozen BK172.out 2; have hnb80 := NB153_154.out; have hnc80 := NB154_153.out; have hnb81 := NB153_161.out; have hnc81 := NB161_153.out; have hcz82_0 : w69.cell? ⟨gb153, 0, none⟩ = some (.string t146) := (blk_cell BK153.out 0).trans rfl; have hcz82_1 : w69.cell? ⟨gb153, 1, none⟩ = some (.slice Ao21 t147.length co21) := (blk_cell BK153.out 1).trans rfl; have hfz82_0 := blk_frozen BK153.out 0; have hfz82_1 := blk_frozen BK153.out 1))
                            go_ret
                            exact ⟨by first | rfl | (simp [errW_none, errW_some] <;> rfl) | (simp [*, errW_none, errW_some] <;> rfl), by repeat (first | (with_reducible first | exact HB.out | apply below_alloc | apply pw_below_drewN | apply below_drew1 | refine below_set ?_ GE153.out | refine below_set ?_ GE154.out | refine below_set ?_ GE161.out | refine below_set ?_ GE171.out | refine below_set ?_ GE172.out) | exact HB.out)⟩
                        · rw [if_neg c46] at H
                          exact absurd H (by simp)
                      · rw [if_neg c45] at H
                        exact absurd H (by simp)
                    · rw [if_neg c44] at H
                      exact absurd H (by simp)

/-- THE ONE PURE STATEMENT of primerlaw05_SyntaxStart: yours. -/
def primerlaw05_SyntaxStart.Pure : Prop := ∀ (a0 : ByteArray) (a1 : ByteArray), a0.size ≤ 140737488351232 → a1.size ≤ 140737488351232 → ∃ k, primerlaw05_SyntaxStart.f k a0 a1 = some true
theorem primerlaw05_SyntaxStart.walk (P : primerlaw05_SyntaxStart.Pure) (a0 : ByteArray) (a1 : ByteArray) (w : World) (w0 : a0.size ≤ 140737488351232) (w1 : a1.size ≤ 140737488351232) :
    Calls Try.prog 6 #[.string a0, .string a1] w fun e w' => e = .returned (.bool true) ∧ Below w.heap.size w w' := by
  obtain ⟨k, h⟩ := P a0 a1 w0 w1
  refine (primerlaw05_SyntaxStart.calls k a0 a1 true w h).mono ?_
  rintro e w' ⟨rfl, hd⟩
  exact ⟨rfl, hd⟩

end Go.Proofs.Ytgllncnfhiiobaa.P
