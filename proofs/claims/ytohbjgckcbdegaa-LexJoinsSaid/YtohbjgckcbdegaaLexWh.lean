/- The walk of package lex: token. -/
import Derived.Test.YtohbjgckcbdegaaLexWg
set_option linter.unusedVariables false
set_option linter.unusedSimpArgs false
namespace Go.Proofs.Ytohbjgckcbdegaa.Lw
open Go.RowKit Go.Proofs.YtohbjgckcbdegaaW.PrintWords Go.Proofs.YtohbjgckcbdegaaW.PrintLast Go.Proofs.YtohbjgckcbdegaaW.PrintMore Go.Proofs.Ytohbjgckcbdegaa

def signsL : List UInt8 := [58, 124, 59, 40, 41, 91, 93, 123, 125, 42, 43, 63, 37]
theorem sign_eq (c : UInt8) : Lib.indexByte signsL c = (if Lx.isSign c then ((signsL.findIdx (· == c) : Nat) : Int) else -1) := by
  revert c
  refine u8_all ?_
  decide +kernel
theorem signIdx {c : UInt8} {x r : Int} (hx : x = c.toNat) (hr : Lib.indexByte signsL c = r) (w : World) :
    Calls Try.prog 32 #[.string ⟨#[58, 124, 59, 40, 41, 91, 93, 123, 125, 42, 43, 63, 37]⟩, .int .u8 x] w fun e w' => e = .returned (.int .i64 r) ∧ w = w' := by
  refine (Try.strings_IndexByte _ _ w).mono fun e w' h => ?_
  obtain ⟨h1, h2⟩ := h
  refine ⟨h1.trans ?_, h2.symm⟩
  rw [show x.toNat.toUInt8 = c by rw [hx]; simp]
  rw [← hr]
  rfl
theorem TokP.from {b : Nat} {w W : World} {g : Nat} {s : ByteArray} {xs : List Value} {n : Nat} {f5 f6 f7 : Int} {res : Except Lx.Flt (Lx.Tok × List UInt8 × (Int × Int))} {x : Ending} {w' : World} (h : TokP b W g s xs n f5 f6 f7 res x w') (hb : Below b w W) : TokP b w g s xs n f5 f6 f7 res x w' := by
  unfold TokP at h ⊢
  cases res with
  | error f => obtain ⟨h1, a', l', c', v', h2, h3⟩ := h; exact ⟨h1, a', l', c', v', h2, hb.trans h3⟩
  | ok r => obtain ⟨h1, tb, v', a', h2, h3, h4, h5, h6⟩ := h; exact ⟨h1, tb, v', a', h2, h3, h4, h5, hb.trans h6⟩
theorem tokP_ret {b : Nat} {w : World} {g : Nat} {s : ByteArray} {xs : List Value} {n : Nat} {f5 f6 f7 : Int} {res : Except Lx.Flt (Lx.Tok × List UInt8 × (Int × Int))} {x : Ending} {w' : World} (h : TokP b w g s xs n f5 f6 f7 res x w') : ∃ y : Bool, x = .returned (.bool y) := by
  unfold TokP at h
  cases res with
  | error f => exact ⟨false, h.1⟩
  | ok r => exact ⟨true, h.1⟩
theorem name_token {c : UInt8} {cs : List UInt8} {p : Int × Int} (h : Lx.letter c = true) : Lx.token c cs p = nameRes (c :: cs) p := by
  unfold Lx.token nameRes
  rw [if_pos h]
theorem lit_token {c : UInt8} {cs : List UInt8} {p : Int × Int} (h : Lx.letter c = false) (h2 : c.toNat = 39 ∨ c.toNat = 34) : Lx.token c cs p = litRes c cs p := by
  unfold Lx.token litRes
  rw [if_neg (by simp [h]), if_pos h2]
  rcases Lx.lit c (cs.length + 1) cs (Lx.adv c p) [] with ⟨_ | ⟨t, r⟩, p'⟩ <;> rfl

set_option maxHeartbeats 2000000 in
set_option maxRecDepth 100000 in
theorem token_calls {b g : Nat} {s : ByteArray} {a line col : Int} {v : Value} {xs : List Value} {n : Nat} {f5 f6 f7 : Int} {w : World} (hb : Scs b w g s a line col v xs n f5 f6 f7) (hA : At s a line col) (hn : n ≤ 1000000)
    (hlt : a < (s.size : Int)) (c : UInt8) (hc : suf s a = c :: suf s (a + 1)) (hbt : bt s a = c.toNat) :
    Calls Try.prog 19 #[.pointer (some ⟨g, 0, none⟩)] w (TokP b w g s xs n f5 f6 f7 (Lx.token c (suf s (a + 1)) (line, col))) := by
  have HB := Aside0.mk hb
  have HA := Aside0.mk hA
  have hS : Scn w g s a line col v f5 f6 f7 := hb.scn
  have HS := Aside0.mk hS
  have hglt := hS.lt
  have hge := hb.ge
  have HC := Aside0.mk (And.intro hc hbt)
  have q0 := hA.a0
  have q1 := hA.a1
  have qs := hA.big
  have ng : some g ≠ v.ownBlock := own_ne (g := g) (t := 47) hb.own hS (by decide)
  clear hb hA hS hc hbt
  go_enter Try.func19, Try.ntmps19
  go_wp2_with (first | (go_at_call 20; refine (here_scn HS.out 3).mono ?_; rintro e w1 ⟨rfl, hg1, hS1⟩; have x0 := fun o => (blk_cell (hS1.alloc o) 0).trans rfl; have x1 := fun o => (blk_cell (hS1.alloc o) 1).trans rfl; have GG := Aside0.mk hg1; have SS := Aside0.mk hS1; clear hg1 hS1))
  have p4 : (0 ≤ a) = True := eq_true q0
  have q4 : (a < (s.size : Int)) = True := eq_true hlt
  have hx4 := bt_at s a
  go_quiet (fail)
  clear x0 x1 p4 q4 hx4
  have HX1 := Aside0.mk (show BoxAt w ((w1.alloc (.cells #[.int .i64 3, .string ⟨#[]⟩, .int .i64 line, .int .i64 col] 31)).drewN nq) w1.heap.size 3 line col ⟨#[]⟩ from ⟨blk_new _ _, GG.out.size⟩)
  have HS1 := Aside0.mk ((SS.out.alloc (.cells #[.int .i64 3, .string ⟨#[]⟩, .int .i64 line, .int .i64 col] 31)).drewN nq)
  have HG1 := Aside0.mk (grown_drewN (grown_alloc GG.out (.cells #[.int .i64 3, .string ⟨#[]⟩, .int .i64 line, .int .i64 col] 31)) nq)
  clear GG SS
  generalize (w1.alloc (.cells #[.int .i64 3, .string ⟨#[]⟩, .int .i64 line, .int .i64 col] 31)).drewN nq = w2 at *
  generalize w1.heap.size = bx at *
  have HO1 := Aside0.mk (pw_own_below HB.out.own (below_of_grown HG1.out))
  have HB1 := Aside0.mk (Below.mono (below_of_grown HG1.out) (show b ≤ w.heap.size by omega))
  have hbge := HX1.out.2
  cases hl : Lx.letter c with
  | true =>
    have hcl := letter_calls c (bt s a) HC.out.2
    rw [hl] at hcl
    have HCL := Aside0.mk hcl
    have HT := Aside0.mk (name_token (cs := suf s (a + 1)) (p := (line, col)) hl)
    clear hl hcl
    go_wp2_with (first | (go_at_call 21; refine (HCL.out _).mono ?_; rintro e w3 ⟨rfl, rfl⟩))
    refine (name_calls ⟨HS1.out, HO1.out, hge⟩ HA.out hn).mono ?_
    intro e w3 hT
    rw [HC.out.1, ← HT.out] at hT
    obtain ⟨y, rfl⟩ := tokP_ret hT
    have KT := Aside0.mk hT
    clear hT
    go_wp2_with fail
    go_ret
    exact KT.out.from HB1.out
  | false =>
    have hcl := letter_calls c (bt s a) HC.out.2
    rw [hl] at hcl
    have HCL := Aside0.mk hcl
    have HL := Aside0.mk hl
    clear hl hcl
    by_cases hq : bt s a = 39 ∨ bt s a = 34
    · have HT := Aside0.mk (lit_token (cs := suf s (a + 1)) (p := (line, col)) HL.out (by have := HC.out.2; omega))
      have hlc := literal_calls ⟨HS1.out, HO1.out, hge⟩ HA.out hn hlt c HC.out.1 HC.out.2 (bt s a) HC.out.2
      have HLC := Aside0.mk hlc
      clear hlc
      by_cases h39 : bt s a = 39
      · have b39 : (bt s a == 39) = true := beq_iff_eq.mpr h39
        clear hq h39
        go_wp2_with (first | (go_at_call 21; refine (HCL.out _).mono ?_; rintro e w3 ⟨rfl, rfl⟩))
        refine HLC.out.mono ?_
        intro e w3 hT
        rw [← HT.out] at hT
        obtain ⟨y, rfl⟩ := tokP_ret hT
        have KT := Aside0.mk hT
        clear hT
        go_wp2_with fail
        go_ret
        exact KT.out.from HB1.out
      · have b39 : (bt s a == 39) = false := beq_eq_false_iff_ne.mpr h39
        have b34 : (bt s a == 34) = true := beq_iff_eq.mpr (hq.resolve_left h39)
        clear hq h39
        go_wp2_with (first | (go_at_call 21; refine (HCL.out _).mono ?_; rintro e w3 ⟨rfl, rfl⟩))
        refine HLC.out.mono ?_
        intro e w3 hT
        rw [← HT.out] at hT
        obtain ⟨y, rfl⟩ := tokP_ret hT
        have KT := Aside0.mk hT
        clear hT
        go_wp2_with fail
        go_ret
        exact KT.out.from HB1.out
    · have b39 : (bt s a == 39) = false := beq_eq_false_iff_ne.mpr (by omega)
      have b34 : (bt s a == 34) = false := beq_eq_false_iff_ne.mpr (by omega)
      have HQ : Aside0 (¬ (c.toNat = 39 ∨ c.toNat = 34)) := ⟨by have := HC.out.2; omega⟩
      clear hq
      cases hsg : Lx.isSign c with
      | false =>
        have hsi := signIdx (x := bt s a) (r := -1) HC.out.2 (by rw [sign_eq, hsg]; rfl)
        have HSI := Aside0.mk hsi
        have HT : Aside0 (Lx.token c (suf s (a + 1)) (line, col) = .error ⟨(line, col), 2⟩) := ⟨by
          unfold Lx.token; rw [if_neg (by rw [HL.out]; decide), if_neg HQ.out, if_neg (by rw [hsg]; decide)]⟩
        clear hsg hsi
        have hX6 := HX1.out.1
        have y0 := (blk_cell hX6 0).trans rfl
        have y1 := (blk_cell hX6 1).trans rfl
        have y2 := (blk_cell hX6 2).trans rfl
        have y3 := (blk_cell hX6 3).trans rfl
        clear hX6
        go_wp2_with (first | (go_at_call 21; refine (HCL.out _).mono ?_; rintro e w3 ⟨rfl, rfl⟩) | (go_at_call 32; refine (HSI.out _).mono ?_; rintro e w3 ⟨rfl, rfl⟩))
        refine (fail_calls HS1.out _ _ _ _ _).mono ?_
        rintro e w3 ⟨rfl, hS3, hG3⟩
        have NG := Aside0.mk ((grown_some HG1.out (some g)).trans hG3)
        clear hG3
        go_wp2_with fail
        go_ret
        rw [HT.out]
        exact ⟨rfl, _, _, _, _, hS3, below_grown NG.out hge hglt⟩
      | true =>
        have hsi := signIdx (x := bt s a) (r := ((signsL.findIdx (· == c) : Nat) : Int)) HC.out.2 (by rw [sign_eq, hsg]; rfl)
        have HSI := Aside0.mk hsi
        have HT : Aside0 (Lx.token c (suf s (a + 1)) (line, col) = .ok (⟨3, [c], (line, col)⟩, suf s (a + 1), Lx.adv c (line, col))) := ⟨by
          unfold Lx.token; rw [if_neg (by rw [HL.out]; decide), if_neg HQ.out, if_pos hsg]⟩
        have hnn : 0 ≤ ((signsL.findIdx (· == c) : Nat) : Int) := Int.natCast_nonneg _
        clear hsg hsi
        generalize ((signsL.findIdx (· == c) : Nat) : Int) = si at *
        have x0 := (blk_cell HS1.out 0).trans rfl
        have x1 := (blk_cell HS1.out 1).trans rfl
        have x2 := (blk_cell HX1.out.1 1).trans rfl
        have x3 := blk_frozen HX1.out.1 1
        go_wp2_with (first | (go_at_call 21; refine (HCL.out _).mono ?_; rintro e w3 ⟨rfl, rfl⟩) | (go_at_call 32; refine (HSI.out _).mono ?_; rintro e w3 ⟨rfl, rfl⟩))
        have hle1 : a + 1 ≤ (s.size : Int) := by omega
        have hle0 : a ≤ a + 1 := by omega
        have hnn1 : 0 ≤ a + 1 := by omega
        have hw1 : wrap64 (a + 1) = a + 1 := by unfold wrap64; omega
        refine start_ (n := 16) (S := fun w' => w'.cell? ⟨g, 0, none⟩ = some (.string s) ∧ w'.cell? ⟨g, 1, none⟩ = some (.int .i64 a)) (ds := [15]) #[false, false, false, false, false, false, false, false, false, false, false, false, false, false, false, false] (by kernel_rfl) rfl rfl ⟨x0, x1⟩ (fun hHeld => ?_)
        refine pure_ (i := 0) (N := some 35) (v := ?_) (a' := ?_) #[true, false, false, false, false, false, false, false, false, false, false, false, false, false, false, false] rfl rfl (by kernel_rfl) (fun _ _ _ h => h) (Or.inl ⟨by rfl, ?_⟩) ?_ ?_
        rotate_left
        · intro w'
          go_simp
          with_reducible rfl
        rotate_left
        · simp only [Act.put, List.setIfInBounds_toArray, List.set_cons_zero, List.set_cons_succ, i64_w, i32_w]
          rfl
        refine pure_ (i := 1) (N := some 36) (v := ?_) (a' := ?_) #[true, true, false, false, false, false, false, false, false, false, false, false, false, false, false, false] rfl rfl (by kernel_rfl) (fun _ _ _ h => h) (Or.inl ⟨by rfl, ?_⟩) ?_ ?_
        rotate_left
        · intro w'
          go_simp
          with_reducible rfl
        rotate_left
        · simp only [Act.put, List.setIfInBounds_toArray, List.set_cons_zero, List.set_cons_succ, i64_w, i32_w]
          rfl
        refine pure_ (i := 2) (N := some 37) (v := ?_) (a' := ?_) #[true, true, true, false, false, false, false, false, false, false, false, false, false, false, false, false] rfl rfl (by kernel_rfl) (fun _ _ _ h => h) (Or.inl ⟨by rfl, ?_⟩) ?_ ?_
        rotate_left
        · intro w'
          go_simp
          with_reducible rfl
        rotate_left
        · simp only [Act.put, List.setIfInBounds_toArray, List.set_cons_zero, List.set_cons_succ, i64_w, i32_w]
          rfl
        refine pure_ (i := 4) (N := some 39) (v := ?_) (a' := ?_) #[true, true, true, false, true, false, false, false, false, false, false, false, false, false, false, false] rfl rfl (by kernel_rfl) (fun _ _ _ h => h) (Or.inl ⟨by rfl, ?_⟩) ?_ ?_
        rotate_left
        · intro w'
          go_simp
          with_reducible rfl
        rotate_left
        · simp only [Act.put, List.setIfInBounds_toArray, List.set_cons_zero, List.set_cons_succ, i64_w, i32_w]
          rfl
        refine pure_ (i := 5) (N := some 40) (v := ?_) (a' := ?_) #[true, true, true, false, true, true, false, false, false, false, false, false, false, false, false, false] rfl rfl (by kernel_rfl) (fun _ _ _ h => h) (Or.inl ⟨by rfl, ?_⟩) ?_ ?_
        rotate_left
        · intro w'
          go_simp
          with_reducible rfl
        rotate_left
        · simp only [Act.put, List.setIfInBounds_toArray, List.set_cons_zero, List.set_cons_succ, i64_w, i32_w]
          rfl
        refine pure_ (i := 6) (N := some 41) (v := ?_) (a' := ?_) #[true, true, true, false, true, true, true, false, false, false, false, false, false, false, false, false] rfl rfl (by kernel_rfl) (fun _ _ _ h => h) (Or.inl ⟨by rfl, ?_⟩) ?_ ?_
        rotate_left
        · intro w'
          go_simp
          with_reducible rfl
        rotate_left
        · simp only [Act.put, List.setIfInBounds_toArray, List.set_cons_zero, List.set_cons_succ, i64_w, i32_w]
          rfl
        refine pure_ (i := 8) (N := some 43) (v := ?_) (a' := ?_) #[true, true, true, false, true, true, true, false, true, false, false, false, false, false, false, false] rfl rfl (by kernel_rfl) (fun _ _ _ h => h) (Or.inl ⟨by rfl, ?_⟩) ?_ ?_
        rotate_left
        · intro w'
          go_simp
          with_reducible rfl
        rotate_left
        · simp only [Act.put, List.setIfInBounds_toArray, List.set_cons_zero, List.set_cons_succ, i64_w, i32_w]
          rfl
        refine pure_ (i := 9) (N := some 44) (v := ?_) (a' := ?_) #[true, true, true, false, true, true, true, false, true, true, false, false, false, false, false, false] rfl rfl (by kernel_rfl) (fun _ _ _ h => h) (Or.inl ⟨by rfl, ?_⟩) ?_ ?_
        rotate_left
        · intro w'
          go_simp
          with_reducible rfl
        rotate_left
        · simp only [Act.put, List.setIfInBounds_toArray, List.set_cons_zero, List.set_cons_succ, i64_w, i32_w]
          rfl
        refine pure_ (i := 10) (N := some 45) (v := ?_) (a' := ?_) #[true, true, true, false, true, true, true, false, true, true, true, false, false, false, false, false] rfl rfl (by kernel_rfl) (fun _ _ _ h => h) (Or.inl ⟨by rfl, ?_⟩) ?_ ?_
        rotate_left
        · intro w'
          go_simp
          with_reducible rfl
        rotate_left
        · simp only [Act.put, List.setIfInBounds_toArray, List.set_cons_zero, List.set_cons_succ, i64_w, i32_w]
          rfl
        refine take_ (i := 3) (N := some 38) (v := ?_) (a' := ?_) #[true, true, true, true, true, true, true, false, true, true, true, false, false, false, false, false] rfl rfl (by kernel_rfl) (fun _ _ _ h => h) (Or.inl ⟨by rfl, ?_⟩) hHeld ?_ ?_
        rotate_left
        · rintro w' ⟨s0, s1⟩
          go_simp
          with_reducible rfl
        rotate_left
        · simp only [Act.put, List.setIfInBounds_toArray, List.set_cons_zero, List.set_cons_succ, i64_w, i32_w]
          rfl
        refine take_ (i := 7) (N := some 42) (v := ?_) (a' := ?_) #[true, true, true, true, true, true, true, true, true, true, true, false, false, false, false, false] rfl rfl (by kernel_rfl) (fun _ _ _ h => h) (Or.inl ⟨by rfl, ?_⟩) hHeld ?_ ?_
        rotate_left
        · rintro w' ⟨s0, s1⟩
          go_simp
          with_reducible rfl
        rotate_left
        · simp only [Act.put, List.setIfInBounds_toArray, List.set_cons_zero, List.set_cons_succ, i64_w, i32_w]
          rfl
        refine take_ (i := 11) (N := some 46) (v := ?_) (a' := ?_) #[true, true, true, true, true, true, true, true, true, true, true, true, false, false, false, false] rfl rfl (by kernel_rfl) (fun _ _ _ h => h) (Or.inl ⟨by rfl, ?_⟩) hHeld ?_ ?_
        rotate_left
        · rintro w' ⟨s0, s1⟩
          go_simp
          with_reducible rfl
        rotate_left
        · simp only [Act.put, List.setIfInBounds_toArray, List.set_cons_zero, List.set_cons_succ, i64_w, i32_w]
          rfl
        refine pure_ (i := 12) (N := some 47) (v := ?_) (a' := ?_) #[true, true, true, true, true, true, true, true, true, true, true, true, true, false, false, false] rfl rfl (by kernel_rfl) (fun _ _ _ h => h) (Or.inl ⟨by rfl, ?_⟩) ?_ ?_
        rotate_left
        · intro w'
          go_simp
          with_reducible rfl
        rotate_left
        · simp only [Act.put, List.setIfInBounds_toArray, List.set_cons_zero, List.set_cons_succ, i64_w, i32_w]
          rfl
        refine pure_ (i := 13) (N := some 48) (v := ?_) (a' := ?_) #[true, true, true, true, true, true, true, true, true, true, true, true, true, true, false, false] rfl rfl (by kernel_rfl) (fun _ _ _ h => h) (Or.inl ⟨by rfl, ?_⟩) ?_ ?_
        rotate_left
        · intro w'
          go_simp
          with_reducible rfl
        rotate_left
        · simp only [Act.put, List.setIfInBounds_toArray, List.set_cons_zero, List.set_cons_succ, i64_w, i32_w]
          rfl
        refine pure_ (i := 14) (N := some 49) (v := ?_) (a' := ?_) #[true, true, true, true, true, true, true, true, true, true, true, true, true, true, true, false] rfl rfl (by kernel_rfl) (fun _ _ _ h => h) (Or.inl ⟨by rfl, ?_⟩) ?_ ?_
        rotate_left
        · intro w'
          go_simp
          with_reducible rfl
        rotate_left
        · simp only [Act.put, List.setIfInBounds_toArray, List.set_cons_zero, List.set_cons_succ, i64_w, i32_w]
          rfl
        refine last_ (i := 15) (N := none) #[true, true, true, true, true, true, true, true, true, true, true, true, true, true, true, true] rfl rfl (by kernel_rfl) (by decide) (fun K hK => ?_)
        refine skip_ (w1 := ?_) (by rfl) rfl ?_ ?_
        rotate_left
        · go_simp
          rfl
        refine hK.out _ _ ?_
        clear hK K
        refine done_ (by kernel_rfl) ?_
        clear x0 x1 x2 x3 hw1
        have hne : g ≠ bx := by omega
        have nbx : some bx ≠ v.ownBlock := by intro e; have := own_lt HB.out.own bx e.symm; omega
        have HX : (w2.setCell ⟨bx, 1, none⟩ (.string (s.extract a.toNat (a + 1).toNat))).drew.heap[bx]? = some (.cells #[.int .i64 3, .string (s.extract a.toNat (a + 1).toNat), .int .i64 line, .int .i64 col] 31 (0, 0)) := by
          refine blk_drew ?_; have := blk_set HX1.out.1 1 (.string (s.extract a.toNat (a + 1).toNat)); simpa using this
        have hS1 : Scn (w2.setCell ⟨bx, 1, none⟩ (.string (s.extract a.toNat (a + 1).toNat))).drew g s a line col v f5 f6 f7 := blk_far (p := ⟨bx, 1, none⟩) HS1.out hne _
        have hG1 : w.grownBy (w2.setCell ⟨bx, 1, none⟩ (.string (s.extract a.toNat (a + 1).toNat))).drew (some g) := grown_drew (grown_setNew (grown_some HG1.out _) hbge _)
        have htx : (s.extract a.toNat (a + 1).toNat).data.toList = [c] := by
          have := suf_cut q0 hle0 hle1
          rw [HC.out.1] at this
          exact List.append_cancel_right (this.trans (by rfl : c :: suf s (a + 1) = [c] ++ suf s (a + 1)))
        generalize (w2.setCell ⟨bx, 1, none⟩ (.string (s.extract a.toNat (a + 1).toNat))).drew = W0 at HX hS1 hG1 ⊢
        generalize s.extract a.toNat (a + 1).toNat = tx at HX htx ⊢
        have TX := Aside0.mk htx
        have GG0 := Aside0.mk hG1
        have SS0 := Aside0.mk hS1
        have XX0 := Aside0.mk HX
        have O0 := Aside0.mk (HB.out.own.kept hG1 (Or.inr (Ne.symm ng)))
        clear HX hS1 hG1 htx
        go_wp2_with (first | (go_at_call 29; refine (step_calls SS0.out HA.out hlt c HC.out.2).mono ?_; rintro e W1 ⟨rfl, hS1, hG1⟩))
        have HX := blk_grown XX0.out hG1 (show some bx ≠ some g by intro e; injection e with e; omega)
        have KG1 := Aside0.mk (GG0.out.trans hG1)
        have KS1 := Aside0.mk hS1
        have HO := O0.out.kept hG1 (Or.inr (Ne.symm ng))
        clear hG1
        have x0 := (blk_cell HX 0).trans rfl
        have x1 := (blk_cell HX 1).trans rfl
        have x2 := (blk_cell HX 2).trans rfl
        have x3 := (blk_cell HX 3).trans rfl
        have x4 : W1.cell? ⟨g, 4, none⟩ = some v := (blk_cell hS1 4).trans rfl
        clear hS1 HX
        obtain ⟨i0, hi0, hz0, hz1, hz2⟩ := info_parts infoTok
        have hsz : bx < W1.heap.size := World.block_lt_of_cell? W1 ⟨bx, 0, none⟩ x0
        have hgW : g < W1.heap.size := KS1.out.lt
        have hW1 : b ≤ W1.heap.size := by omega
        have zf : W1.frozen? ⟨g, 4, none⟩ = false := blk_frozen KS1.out 4
        have AL : ∀ {a u o}, W1.cell? a = some u → (W1.alloc o).drew.cell? a = some u := fun {a u o} h => (World.cell?_alloc_some W1 a o (by rw [h]; rfl)).trans h
        have AF : ∀ {o}, W1.frozen? ⟨g, 4, none⟩ = false → (W1.alloc o).drew.frozen? ⟨g, 4, none⟩ = false := fun {o} _ => blk_frozen ((KS1.out.alloc o).drew) 4
        refine start_ (n := 11) (S := fun w' => w'.cell? ⟨g, 4, none⟩ = some v ∧ w'.cell? ⟨bx, 0, none⟩ = some (.int .i64 3) ∧ w'.cell? ⟨bx, 1, none⟩ = some (.string tx) ∧ w'.cell? ⟨bx, 2, none⟩ = some (.int .i64 line) ∧ w'.cell? ⟨bx, 3, none⟩ = some (.int .i64 col)) (ds := [10]) #[false, false, false, false, false, false, false, false, false, false, false] (by kernel_rfl) rfl rfl ⟨x4, x0, x1, x2, x3⟩ (fun hHeld => ?_)
        refine pure_ (i := 0) (N := some 52) (v := ?_) (a' := ?_) #[true, false, false, false, false, false, false, false, false, false, false] rfl rfl (by kernel_rfl) (fun _ _ _ h => h) (Or.inl ⟨by rfl, ?_⟩) ?_ ?_
        rotate_left
        · intro w'
          go_simp
          with_reducible rfl
        rotate_left
        · simp only [Act.put, List.setIfInBounds_toArray, List.set_cons_zero, List.set_cons_succ, i64_w, i32_w]
          rfl
        refine pure_ (i := 1) (N := some 53) (v := ?_) (a' := ?_) #[true, true, false, false, false, false, false, false, false, false, false] rfl rfl (by kernel_rfl) (fun _ _ _ h => h) (Or.inl ⟨by rfl, ?_⟩) ?_ ?_
        rotate_left
        · intro w'
          go_simp
          with_reducible rfl
        rotate_left
        · simp only [Act.put, List.setIfInBounds_toArray, List.set_cons_zero, List.set_cons_succ, i64_w, i32_w]
          rfl
        refine pure_ (i := 2) (N := some 54) (v := ?_) (a' := ?_) #[true, true, true, false, false, false, false, false, false, false, false] rfl rfl (by kernel_rfl) (fun _ _ _ h => h) (Or.inl ⟨by rfl, ?_⟩) ?_ ?_
        rotate_left
        · intro w'
          go_simp
          with_reducible rfl
        rotate_left
        · simp only [Act.put, List.setIfInBounds_toArray, List.set_cons_zero, List.set_cons_succ, i64_w, i32_w]
          rfl
        refine pure_ (i := 3) (N := some 55) (v := ?_) (a' := ?_) #[true, true, true, true, false, false, false, false, false, false, false] rfl rfl (by kernel_rfl) (fun _ _ _ h => h) (Or.inl ⟨by rfl, ?_⟩) ?_ ?_
        rotate_left
        · intro w'
          go_simp
          with_reducible rfl
        rotate_left
        · simp only [Act.put, List.setIfInBounds_toArray, List.set_cons_zero, List.set_cons_succ, i64_w, i32_w]
          rfl
        refine take_ (i := 4) (N := some 56) (v := ?_) (a' := ?_) #[true, true, true, true, true, false, false, false, false, false, false] rfl rfl (by kernel_rfl) (fun _ _ _ h => h) (Or.inl ⟨by rfl, ?_⟩) hHeld ?_ ?_
        rotate_left
        · rintro w' ⟨s0, s1, s2, s3, s4⟩
          go_simp
          with_reducible rfl
        rotate_left
        · simp only [Act.put, List.setIfInBounds_toArray, List.set_cons_zero, List.set_cons_succ, i64_w, i32_w]
          rfl
        refine take_ (i := 5) (N := some 57) (v := ?_) (a' := ?_) #[true, true, true, true, true, true, false, false, false, false, false] rfl rfl (by kernel_rfl) (fun _ _ _ h => h) (Or.inl ⟨by rfl, ?_⟩) hHeld ?_ ?_
        rotate_left
        · rintro w' ⟨s0, s1, s2, s3, s4⟩
          go_simp
          with_reducible rfl
        rotate_left
        · simp only [Act.put, List.setIfInBounds_toArray, List.set_cons_zero, List.set_cons_succ, i64_w, i32_w]
          rfl
        refine one_ (i := 6) (N := some 58) #[true, true, true, true, true, true, true, false, false, false, false] rfl rfl (by kernel_rfl) (by decide) (fun K hK => ?_)
        refine value_ (w1 := ?_) (v := ?_) (by rfl) rfl ?_ ?_
        rotate_left 2
        · go_simp
          constructor
          · rfl
          · rfl
        refine hK.out _ _ ⟨(AL x4), (AL x0), (AL x1), (AL x2), (AL x3)⟩ (fun hHeld => ?_)
        clear hK K
        refine norm_ (a' := ?_) ?_ ?_
        rotate_left
        · show Act.put _ (some 58) _ = _
          simp only [Act.put, List.setIfInBounds_toArray, List.set_cons_zero, List.set_cons_succ, i64_w, i32_w]
          rfl
        refine one_ (i := 7) (N := some 59) #[true, true, true, true, true, true, true, true, false, false, false] rfl rfl (by kernel_rfl) (by decide) (fun K hK => ?_)
        refine step_append_lies _ (by rfl) _ _ _ (by rfl) b 31 i0 _ 4 40 Try.underlying24 hi0 hz0 hz1 hz2 rfl (by omega) v n xs (by rfl) ((HO.alloc _).drew) ⟨W1.heap.size, 0, none⟩ 1 1 [.int .i64 3, .string tx, .int .i64 line, .int .i64 col] (by rfl) (by rfl) (World.news_of_block (cs := #[.int .i64 3, .string tx, .int .i64 line, .int .i64 col]) (t := 31) (fr := (0, 0)) (heap_alloc_new W1 _)) (by simp [Value.oneCell']) (by omega) (by unfold maxLen; omega) (by omega) (by simp; omega) (W1.heap.size + 1) (by simp) ?_
        intro gg cap w1 hown1 hgrow hat hlt1
        have kf : ∀ a u, a.block < W1.heap.size → some a.block ≠ v.ownBlock → W1.cell? a = some u → w1.cell? a = some u := fun a u h1 h2 h3 => (hgrow.cell_far a (by simp; omega) h2).trans (AL h3)
        refine hK.out _ _ ⟨(kf _ _ hgW ng x4), (kf _ _ hsz nbx x0), (kf _ _ hsz nbx x1), (kf _ _ hsz nbx x2), (kf _ _ hsz nbx x3)⟩ (fun hHeld => ?_)
        clear hK K
        refine norm_ (a' := ?_) ?_ ?_
        rotate_left
        · show Act.put _ (some 59) _ = _
          simp only [Act.put, List.setIfInBounds_toArray, List.set_cons_zero, List.set_cons_succ, i64_w, i32_w]
          rfl
        refine pure_ (i := 8) (N := some 60) (v := ?_) (a' := ?_) #[true, true, true, true, true, true, true, true, true, false, false] rfl rfl (by kernel_rfl) (fun _ _ _ h => h) (Or.inl ⟨by rfl, ?_⟩) ?_ ?_
        rotate_left
        · intro w'
          go_simp
          with_reducible rfl
        rotate_left
        · simp only [Act.put, List.setIfInBounds_toArray, List.set_cons_zero, List.set_cons_succ, i64_w, i32_w]
          rfl
        refine pure_ (i := 9) (N := some 61) (v := ?_) (a' := ?_) #[true, true, true, true, true, true, true, true, true, true, false] rfl rfl (by kernel_rfl) (fun _ _ _ h => h) (Or.inl ⟨by rfl, ?_⟩) ?_ ?_
        rotate_left
        · intro w'
          go_simp
          with_reducible rfl
        rotate_left
        · simp only [Act.put, List.setIfInBounds_toArray, List.set_cons_zero, List.set_cons_succ, i64_w, i32_w]
          rfl
        refine last_ (i := 10) (N := none) #[true, true, true, true, true, true, true, true, true, true, true] rfl rfl (by kernel_rfl) (by decide) (fun K hK => ?_)
        have z4 : w1.frozen? ⟨g, 4, none⟩ = false := (hgrow.frozen_far ⟨g, 4, none⟩ (by simp; omega) ng).trans (AF zf)
        have y4 := kf ⟨g, 4, none⟩ _ hgW ng x4
        refine skip_ (w1 := ?_) (by rfl) rfl ?_ ?_
        rotate_left
        · go_simp
          rfl
        refine hK.out _ _ ?_
        clear hK K
        refine done_ (by kernel_rfl) ?_
        go_wp2
        go_ret
        rw [HT.out]
        have fin := append_close (P := True) (ys := [.int .i64 3, .string tx, .int .i64 line, .int .i64 col]) hgW hge ((Below.refl b W1)) KS1.out HO hgrow hown1 ng trivial
        obtain ⟨-, v', hs', hb'⟩ := fin
        exact ⟨rfl, tx, v', a + 1, TX.out, rfl, HA.out.step hlt c, hs', (below_grown KG1.out hge hglt).trans hb'⟩
end Go.Proofs.Ytohbjgckcbdegaa.Lw
