/- The reference's parser: its state; bad, look. -/
import Derived.Test.YtgllncnfhiiobaaSynA
set_option linter.unusedVariables false
set_option linter.unusedSimpArgs false
namespace Go.Proofs.Ytgllncnfhiiobaa.Rw
open Go.RowKit Go.Proofs.YtgllncnfhiiobaaW.PrintWords Go.Proofs.YtgllncnfhiiobaaW.PrintLast Go.Proofs.YtgllncnfhiiobaaW.PrintMore Go.Proofs.Ytgllncnfhiiobaa Go.Proofs.Ytgllncnfhiiobaa.P Go.Proofs.Ytgllncnfhiiobaa.Lw Go.Proofs.Ytgllncnfhiiobaa.Sw

/-- The reference's state: how far it is; its fault; how many are open. -/
structure RS where
  at_ : Nat
  l : Int
  c : Int
  e : Int
  op : Int
def RAt (w : World) (g : Nat) (A : Option Addr) (n c : Nat) (s : RS) : Prop :=
  w.heap[g]? = some (.cells #[.slice A n c, .int .i64 s.at_, .int .i64 s.l, .int .i64 s.c, .int .i64 s.e, .int .i64 s.op] 69 (0, 0))
structure RE (w : World) (g : Nat) (A : Option Addr) (c : Nat) (ts : List S102) (s : RS) : Prop where
  blk : RAt w g A ts.length c s
  tok : Kd.R k102 102 w 0 (fun k => k ≠ g) (.slice A ts.length c) ts
section
variable {w w' : World} {g : Nat} {A : Option Addr} {c : Nat} {ts : List S102} {s : RS}
theorem RE.C (h : RE w g A c ts s) : Kd.C k102 w A ts.length ts := (Kd.R_reads' h.tok).2.2
theorem RE.lt (h : RE w g A c ts s) : g < w.heap.size := blk_lt h.blk
theorem RE.ne_new (h : RE w g A c ts s) : g ≠ w.heap.size := Nat.ne_of_lt h.lt
theorem RE.grown (h : RE w g A c ts s) (hg : w.grownBy w' none) : RE w' g A c ts s :=
  ⟨blk_grown h.blk hg (by simp), Kd.R_grown h.tok hg (by simp)⟩
theorem RE.step {s' : RS} (h : RE w g A c ts s) (hg : w.grownBy w' (some g)) (hb : RAt w' g A ts.length c s') : RE w' g A c ts s' :=
  ⟨hb, Kd.R_grown h.tok hg (fun k hk e => hk (by injection e))⟩
end
theorem rd_rtok {ts : List S102} {i : Nat} {t : S102} (h : ts[i]? = some t) : rd_T102 ts (i : Int) = t := by
  unfold rd_T102
  simp [List.getD, h]
theorem lt_rtok {ts : List S102} {i : Nat} {t : S102} (h : ts[i]? = some t) : (i : Int) < (ts.length : Int) := by
  have := (List.getElem?_eq_some_iff.1 h).1
  omega
/-- A fault is kept, if there is none yet. -/
def badT (t : S102) (s : RS) (code : Int) : RS := if s.e = 0 then { s with l := t.f2, c := t.f3, e := code } else s
def farR (i : Nat) (t : S102) : Bool := decide (4096 ≤ i) && (t.f0 != 4)
def lookT (t : S102) (s : RS) : RS := if farR s.at_ t then badT t s 6 else s
theorem lookT_at (t : S102) (s : RS) : (lookT t s).at_ = s.at_ := by
  unfold lookT badT
  split
  · split <;> rfl
  · rfl
theorem badT_at (t : S102) (s : RS) (code : Int) : (badT t s code).at_ = s.at_ := by
  unfold badT
  split <;> rfl
section
variable {w w' : World} {g : Nat} {A : Option Addr} {c : Nat} {ts : List S102} {s : RS} {t : S102}
abbrev tokBox (t : S102) : Obj := .cells #[.int .i64 t.f0, .string t.f1, .int .i64 t.f2, .int .i64 t.f3] 102
theorem rat_fault (h : RAt w g A ts.length c s) (x y z : Int) : RAt (((w.setCell ⟨g, 2, none⟩ (.int .i64 x)).setCell ⟨g, 3, none⟩ (.int .i64 y)).setCell ⟨g, 4, none⟩ (.int .i64 z)) g A ts.length c { s with l := x, c := y, e := z } := by
  have := blk_set (blk_set (blk_set h 2 (.int .i64 x)) 3 (.int .i64 y)) 4 (.int .i64 z)
  unfold RAt
  simpa using this
set_option maxHeartbeats 4000000 in
set_option maxRecDepth 100000 in
theorem bad_calls (h : RE w g A c ts s) (ht : ts[s.at_]? = some t) (code : Int) :
    Calls Try.prog 25 #[.pointer (some ⟨g, 0, none⟩), .int .i64 code] w fun e w' => e = .returned (.tuple #[]) ∧ w.grownBy w' (some g) ∧ RE w' g A c ts (badT t s code) := by
  have HP := Aside0.mk h
  have HT := Aside0.mk ht
  have h4 := cellAt h.blk 4 rfl
  by_cases he : s.e = 0
  · obtain ⟨ad, rfl, hx0, hx1, hx2, hx3⟩ := at_T102 h.C (s.at_ : Int) (by omega) (lt_rtok ht)
    rw [rd_rtok ht] at hx0 hx1 hx2 hx3
    have p0 := eq_true (show (0 : Int) ≤ (s.at_ : Int) by omega)
    have q0 := eq_true (lt_rtok ht)
    have h0 := cellAt h.blk 0 rfl
    have h1 := cellAt h.blk 1 rfl
    have hb := blk_alloc h.blk (tokBox t)
    have y2 := cellAt hb 2 rfl
    have y3 := cellAt hb 3 rfl
    have y4 := cellAt hb 4 rfl
    have z2 := blk_frozen hb 2
    have z3 := blk_frozen hb 3
    have z4 := blk_frozen hb 4
    have HB := Aside0.mk hb
    have hne := h.ne_new
    have b0 : (s.e == 0) = true := beq_iff_eq.mpr he
    have HE := Aside0.mk he
    clear hb h ht he
    go_enter Try.func25, Try.ntmps25
    go_wp2_with (fail)
    refine start_ (n := 12) (S := fun w' => w'.cell? ⟨g, 0, none⟩ = some (.slice (some ad) ts.length c) ∧ w'.cell? ⟨g, 1, none⟩ = some (.int .i64 s.at_) ∧ w'.cell? (ad.add (s.at_ * 4)) = some (.int .i64 t.f0) ∧ w'.cell? ⟨(ad.add (s.at_ * 4)).block, (ad.add (s.at_ * 4)).off + 1, none⟩ = some (.string t.f1) ∧ w'.cell? ⟨(ad.add (s.at_ * 4)).block, (ad.add (s.at_ * 4)).off + 2, none⟩ = some (.int .i64 t.f2) ∧ w'.cell? ⟨(ad.add (s.at_ * 4)).block, (ad.add (s.at_ * 4)).off + 3, none⟩ = some (.int .i64 t.f3)) (ds := [11]) #[false, false, false, false, false, false, false, false, false, false, false, false] (by kernel_rfl) rfl rfl ⟨h0, h1, hx0, hx1, hx2, hx3⟩ (fun hHeld => ?_)
    refine pure_ (i := 0) (N := some 11) (v := ?_) (a' := ?_) #[true, false, false, false, false, false, false, false, false, false, false, false] rfl rfl (by kernel_rfl) (fun _ _ _ h => h) (Or.inl ⟨by rfl, ?_⟩) ?_ ?_
    rotate_left
    · intro w'
      go_simp
      with_reducible rfl
    rotate_left
    · simp only [Act.put, List.setIfInBounds_toArray, List.set_cons_zero, List.set_cons_succ, i64_w, i32_w]
      rfl
    refine pure_ (i := 1) (N := some 12) (v := ?_) (a' := ?_) #[true, true, false, false, false, false, false, false, false, false, false, false] rfl rfl (by kernel_rfl) (fun _ _ _ h => h) (Or.inl ⟨by rfl, ?_⟩) ?_ ?_
    rotate_left
    · intro w'
      go_simp
      with_reducible rfl
    rotate_left
    · simp only [Act.put, List.setIfInBounds_toArray, List.set_cons_zero, List.set_cons_succ, i64_w, i32_w]
      rfl
    refine pure_ (i := 2) (N := some 13) (v := ?_) (a' := ?_) #[true, true, true, false, false, false, false, false, false, false, false, false] rfl rfl (by kernel_rfl) (fun _ _ _ h => h) (Or.inl ⟨by rfl, ?_⟩) ?_ ?_
    rotate_left
    · intro w'
      go_simp
      with_reducible rfl
    rotate_left
    · simp only [Act.put, List.setIfInBounds_toArray, List.set_cons_zero, List.set_cons_succ, i64_w, i32_w]
      rfl
    refine pure_ (i := 4) (N := some 15) (v := ?_) (a' := ?_) #[true, true, true, false, true, false, false, false, false, false, false, false] rfl rfl (by kernel_rfl) (fun _ _ _ h => h) (Or.inl ⟨by rfl, ?_⟩) ?_ ?_
    rotate_left
    · intro w'
      go_simp
      with_reducible rfl
    rotate_left
    · simp only [Act.put, List.setIfInBounds_toArray, List.set_cons_zero, List.set_cons_succ, i64_w, i32_w]
      rfl
    refine pure_ (i := 5) (N := some 16) (v := ?_) (a' := ?_) #[true, true, true, false, true, true, false, false, false, false, false, false] rfl rfl (by kernel_rfl) (fun _ _ _ h => h) (Or.inl ⟨by rfl, ?_⟩) ?_ ?_
    rotate_left
    · intro w'
      go_simp
      with_reducible rfl
    rotate_left
    · simp only [Act.put, List.setIfInBounds_toArray, List.set_cons_zero, List.set_cons_succ, i64_w, i32_w]
      rfl
    refine pure_ (i := 6) (N := some 17) (v := ?_) (a' := ?_) #[true, true, true, false, true, true, true, false, false, false, false, false] rfl rfl (by kernel_rfl) (fun _ _ _ h => h) (Or.inl ⟨by rfl, ?_⟩) ?_ ?_
    rotate_left
    · intro w'
      go_simp
      with_reducible rfl
    rotate_left
    · simp only [Act.put, List.setIfInBounds_toArray, List.set_cons_zero, List.set_cons_succ, i64_w, i32_w]
      rfl
    refine take_ (i := 3) (N := some 14) (v := ?_) (a' := ?_) #[true, true, true, true, true, true, true, false, false, false, false, false] rfl rfl (by kernel_rfl) (fun _ _ _ h => h) (Or.inl ⟨by rfl, ?_⟩) hHeld ?_ ?_
    rotate_left
    · rintro w' ⟨s0, s1, s2, s3, s4, s5⟩
      go_simp
      with_reducible rfl
    rotate_left
    · simp only [Act.put, List.setIfInBounds_toArray, List.set_cons_zero, List.set_cons_succ, i64_w, i32_w]
      rfl
    refine take_ (i := 7) (N := some 18) (v := ?_) (a' := ?_) #[true, true, true, true, true, true, true, true, false, false, false, false] rfl rfl (by kernel_rfl) (fun _ _ _ h => h) (Or.inl ⟨by rfl, ?_⟩) hHeld ?_ ?_
    rotate_left
    · rintro w' ⟨s0, s1, s2, s3, s4, s5⟩
      go_simp
      with_reducible rfl
    rotate_left
    · simp only [Act.put, List.setIfInBounds_toArray, List.set_cons_zero, List.set_cons_succ, i64_w, i32_w]
      rfl
    refine pure_ (i := 8) (N := some 19) (v := ?_) (a' := ?_) #[true, true, true, true, true, true, true, true, true, false, false, false] rfl rfl (by kernel_rfl) (fun _ _ _ h => h) (Or.inl ⟨by rfl, ?_⟩) ?_ ?_
    rotate_left
    · intro w'
      go_simp
      with_reducible rfl
    rotate_left
    · simp only [Act.put, List.setIfInBounds_toArray, List.set_cons_zero, List.set_cons_succ, i64_w, i32_w]
      rfl
    refine take_ (i := 9) (N := some 20) (v := ?_) (a' := ?_) #[true, true, true, true, true, true, true, true, true, true, false, false] rfl rfl (by kernel_rfl) (fun _ _ _ h => h) (Or.inl ⟨by rfl, ?_⟩) hHeld ?_ ?_
    rotate_left
    · rintro w' ⟨s0, s1, s2, s3, s4, s5⟩
      go_simp
      with_reducible rfl
    rotate_left
    · simp only [Act.put, List.setIfInBounds_toArray, List.set_cons_zero, List.set_cons_succ, i64_w, i32_w]
      rfl
    refine one_ (i := 10) (N := some 4) #[true, true, true, true, true, true, true, true, true, true, true, false] rfl rfl (by kernel_rfl) (by decide) (fun K hK => ?_)
    refine value_ (w1 := ?_) (v := ?_) (by rfl) rfl ?_ ?_
    rotate_left 2
    · go_simp
      constructor
      · rfl
      · rfl
    refine hK.out _ _ ⟨cell_alc hHeld.1 _, cell_alc hHeld.2.1 _, cell_alc hHeld.2.2.1 _, cell_alc hHeld.2.2.2.1 _, cell_alc hHeld.2.2.2.2.1 _, cell_alc hHeld.2.2.2.2.2 _⟩ (fun hHeld => ?_)
    clear hK K
    refine norm_ (a' := ?_) ?_ ?_
    rotate_left
    · show Act.put _ (some 4) _ = _
      simp only [Act.put, List.setIfInBounds_toArray, List.set_cons_zero, List.set_cons_succ, i64_w, i32_w]
      rfl
    refine last_ (i := 11) (N := none) #[true, true, true, true, true, true, true, true, true, true, true, true] rfl rfl (by kernel_rfl) (by decide) (fun K hK => ?_)
    refine skip_ (w1 := ?_) (by rfl) rfl ?_ ?_
    rotate_left
    · go_simp
      rfl
    refine hK.out _ _ ?_
    clear hK K
    refine done_ (by kernel_rfl) ?_
    clear hHeld h0 h1 hx0 hx1 hx2 hx3
    go_wp2
    go_end0
    refine ⟨rfl, ?_, ?_⟩
    · exact grown_drew (grown_set (grown_set (grown_set (grown_alloc (grown_refl _ _) _) _ _) _ _) _ _)
    · unfold badT
      rw [if_pos HE.out]
      exact HP.out.step (grown_drew (grown_set (grown_set (grown_set (grown_alloc (grown_refl _ _) _) _ _) _ _) _ _)) (rat_fault HB.out _ _ _)
  · have b0 : (s.e == 0) = false := beq_eq_false_iff_ne.mpr he
    have HE := Aside0.mk he
    clear h ht he
    go_enter Try.func25, Try.ntmps25
    go_wp2
    go_end0
    refine ⟨rfl, grown_refl _ _, ?_⟩
    unfold badT
    rw [if_neg HE.out]
    exact HP.out
set_option maxHeartbeats 4000000 in
set_option maxRecDepth 100000 in
theorem look_low (h : RE w g A c ts s) (ht : ts[s.at_]? = some t) (hi : s.at_ < 4096) :
    Calls Try.prog 24 #[.pointer (some ⟨g, 0, none⟩)] w fun e w' => e = .returned (.tuple #[.int .i64 t.f0, .string t.f1]) ∧ w.grownBy w' none := by
  have HP := Aside0.mk h
  have HT := Aside0.mk ht
  obtain ⟨ad, rfl, hx0, hx1, hx2, hx3⟩ := at_T102 h.C (s.at_ : Int) (by omega) (lt_rtok ht)
  rw [rd_rtok ht] at hx0 hx1 hx2 hx3
  have p0 := eq_true (show (0 : Int) ≤ (s.at_ : Int) by omega)
  have q0 := eq_true (lt_rtok ht)
  have h0 := cellAt h.blk 0 rfl
  have h1 := cellAt h.blk 1 rfl
  have y1 := cellAt (blk_alloc h.blk (tokBox t)) 1 rfl
  have hne := h.ne_new
  clear h ht
  have b0 : decide (4096 ≤ (s.at_ : Int)) = false := decide_eq_false (by omega)
  clear hi
  go_enter Try.func24, Try.ntmps24
  go_wp2_with (fail)
  refine start_ (n := 12) (S := fun w' => w'.cell? ⟨g, 0, none⟩ = some (.slice (some ad) ts.length c) ∧ w'.cell? ⟨g, 1, none⟩ = some (.int .i64 s.at_) ∧ w'.cell? (ad.add (s.at_ * 4)) = some (.int .i64 t.f0) ∧ w'.cell? ⟨(ad.add (s.at_ * 4)).block, (ad.add (s.at_ * 4)).off + 1, none⟩ = some (.string t.f1) ∧ w'.cell? ⟨(ad.add (s.at_ * 4)).block, (ad.add (s.at_ * 4)).off + 2, none⟩ = some (.int .i64 t.f2) ∧ w'.cell? ⟨(ad.add (s.at_ * 4)).block, (ad.add (s.at_ * 4)).off + 3, none⟩ = some (.int .i64 t.f3)) (ds := [11]) #[false, false, false, false, false, false, false, false, false, false, false, false] (by kernel_rfl) rfl rfl ⟨h0, h1, hx0, hx1, hx2, hx3⟩ (fun hHeld => ?_)
  refine pure_ (i := 0) (N := some 5) (v := ?_) (a' := ?_) #[true, false, false, false, false, false, false, false, false, false, false, false] rfl rfl (by kernel_rfl) (fun _ _ _ h => h) (Or.inl ⟨by rfl, ?_⟩) ?_ ?_
  rotate_left
  · intro w'
    go_simp
    with_reducible rfl
  rotate_left
  · simp only [Act.put, List.setIfInBounds_toArray, List.set_cons_zero, List.set_cons_succ, i64_w, i32_w]
    rfl
  refine pure_ (i := 1) (N := some 6) (v := ?_) (a' := ?_) #[true, true, false, false, false, false, false, false, false, false, false, false] rfl rfl (by kernel_rfl) (fun _ _ _ h => h) (Or.inl ⟨by rfl, ?_⟩) ?_ ?_
  rotate_left
  · intro w'
    go_simp
    with_reducible rfl
  rotate_left
  · simp only [Act.put, List.setIfInBounds_toArray, List.set_cons_zero, List.set_cons_succ, i64_w, i32_w]
    rfl
  refine pure_ (i := 2) (N := some 7) (v := ?_) (a' := ?_) #[true, true, true, false, false, false, false, false, false, false, false, false] rfl rfl (by kernel_rfl) (fun _ _ _ h => h) (Or.inl ⟨by rfl, ?_⟩) ?_ ?_
  rotate_left
  · intro w'
    go_simp
    with_reducible rfl
  rotate_left
  · simp only [Act.put, List.setIfInBounds_toArray, List.set_cons_zero, List.set_cons_succ, i64_w, i32_w]
    rfl
  refine pure_ (i := 4) (N := some 9) (v := ?_) (a' := ?_) #[true, true, true, false, true, false, false, false, false, false, false, false] rfl rfl (by kernel_rfl) (fun _ _ _ h => h) (Or.inl ⟨by rfl, ?_⟩) ?_ ?_
  rotate_left
  · intro w'
    go_simp
    with_reducible rfl
  rotate_left
  · simp only [Act.put, List.setIfInBounds_toArray, List.set_cons_zero, List.set_cons_succ, i64_w, i32_w]
    rfl
  refine pure_ (i := 5) (N := some 10) (v := ?_) (a' := ?_) #[true, true, true, false, true, true, false, false, false, false, false, false] rfl rfl (by kernel_rfl) (fun _ _ _ h => h) (Or.inl ⟨by rfl, ?_⟩) ?_ ?_
  rotate_left
  · intro w'
    go_simp
    with_reducible rfl
  rotate_left
  · simp only [Act.put, List.setIfInBounds_toArray, List.set_cons_zero, List.set_cons_succ, i64_w, i32_w]
    rfl
  refine pure_ (i := 6) (N := some 11) (v := ?_) (a' := ?_) #[true, true, true, false, true, true, true, false, false, false, false, false] rfl rfl (by kernel_rfl) (fun _ _ _ h => h) (Or.inl ⟨by rfl, ?_⟩) ?_ ?_
  rotate_left
  · intro w'
    go_simp
    with_reducible rfl
  rotate_left
  · simp only [Act.put, List.setIfInBounds_toArray, List.set_cons_zero, List.set_cons_succ, i64_w, i32_w]
    rfl
  refine take_ (i := 3) (N := some 8) (v := ?_) (a' := ?_) #[true, true, true, true, true, true, true, false, false, false, false, false] rfl rfl (by kernel_rfl) (fun _ _ _ h => h) (Or.inl ⟨by rfl, ?_⟩) hHeld ?_ ?_
  rotate_left
  · rintro w' ⟨s0, s1, s2, s3, s4, s5⟩
    go_simp
    with_reducible rfl
  rotate_left
  · simp only [Act.put, List.setIfInBounds_toArray, List.set_cons_zero, List.set_cons_succ, i64_w, i32_w]
    rfl
  refine take_ (i := 7) (N := some 12) (v := ?_) (a' := ?_) #[true, true, true, true, true, true, true, true, false, false, false, false] rfl rfl (by kernel_rfl) (fun _ _ _ h => h) (Or.inl ⟨by rfl, ?_⟩) hHeld ?_ ?_
  rotate_left
  · rintro w' ⟨s0, s1, s2, s3, s4, s5⟩
    go_simp
    with_reducible rfl
  rotate_left
  · simp only [Act.put, List.setIfInBounds_toArray, List.set_cons_zero, List.set_cons_succ, i64_w, i32_w]
    rfl
  refine pure_ (i := 8) (N := some 13) (v := ?_) (a' := ?_) #[true, true, true, true, true, true, true, true, true, false, false, false] rfl rfl (by kernel_rfl) (fun _ _ _ h => h) (Or.inl ⟨by rfl, ?_⟩) ?_ ?_
  rotate_left
  · intro w'
    go_simp
    with_reducible rfl
  rotate_left
  · simp only [Act.put, List.setIfInBounds_toArray, List.set_cons_zero, List.set_cons_succ, i64_w, i32_w]
    rfl
  refine take_ (i := 9) (N := some 14) (v := ?_) (a' := ?_) #[true, true, true, true, true, true, true, true, true, true, false, false] rfl rfl (by kernel_rfl) (fun _ _ _ h => h) (Or.inl ⟨by rfl, ?_⟩) hHeld ?_ ?_
  rotate_left
  · rintro w' ⟨s0, s1, s2, s3, s4, s5⟩
    go_simp
    with_reducible rfl
  rotate_left
  · simp only [Act.put, List.setIfInBounds_toArray, List.set_cons_zero, List.set_cons_succ, i64_w, i32_w]
    rfl
  refine one_ (i := 10) (N := some 4) #[true, true, true, true, true, true, true, true, true, true, true, false] rfl rfl (by kernel_rfl) (by decide) (fun K hK => ?_)
  refine value_ (w1 := ?_) (v := ?_) (by rfl) rfl ?_ ?_
  rotate_left 2
  · go_simp
    constructor
    · rfl
    · rfl
  refine hK.out _ _ ⟨cell_alc hHeld.1 _, cell_alc hHeld.2.1 _, cell_alc hHeld.2.2.1 _, cell_alc hHeld.2.2.2.1 _, cell_alc hHeld.2.2.2.2.1 _, cell_alc hHeld.2.2.2.2.2 _⟩ (fun hHeld => ?_)
  clear hK K
  refine norm_ (a' := ?_) ?_ ?_
  rotate_left
  · show Act.put _ (some 4) _ = _
    simp only [Act.put, List.setIfInBounds_toArray, List.set_cons_zero, List.set_cons_succ, i64_w, i32_w]
    rfl
  refine last_ (i := 11) (N := none) #[true, true, true, true, true, true, true, true, true, true, true, true] rfl rfl (by kernel_rfl) (by decide) (fun K hK => ?_)
  refine skip_ (w1 := ?_) (by rfl) rfl ?_ ?_
  rotate_left
  · go_simp
    rfl
  refine hK.out _ _ ?_
  clear hK K
  refine done_ (by kernel_rfl) ?_
  clear hHeld h0 h1 hx0 hx1 hx2 hx3
  have u0 := cellAt (blk_new w (tokBox t)) 0 rfl
  have u1 := cellAt (blk_new w (tokBox t)) 1 rfl
  go_wp2_with (fail)
  refine start_ (n := 6) (S := fun w' => w'.cell? ⟨w.heap.size, 0, none⟩ = some (.int .i64 t.f0) ∧ w'.cell? ⟨w.heap.size, 1, none⟩ = some (.string t.f1)) (ds := []) #[false, false, false, false, false, false] (by kernel_rfl) rfl rfl ⟨u0, u1⟩ (fun hHeld => ?_)
  refine pure_ (i := 0) (N := some 27) (v := ?_) (a' := ?_) #[true, false, false, false, false, false] rfl rfl (by kernel_rfl) (fun _ _ _ h => h) (Or.inl ⟨by rfl, ?_⟩) ?_ ?_
  rotate_left
  · intro w'
    go_simp
    with_reducible rfl
  rotate_left
  · simp only [Act.put, List.setIfInBounds_toArray, List.set_cons_zero, List.set_cons_succ, i64_w, i32_w]
    rfl
  refine pure_ (i := 2) (N := some 29) (v := ?_) (a' := ?_) #[true, false, true, false, false, false] rfl rfl (by kernel_rfl) (fun _ _ _ h => h) (Or.inl ⟨by rfl, ?_⟩) ?_ ?_
  rotate_left
  · intro w'
    go_simp
    with_reducible rfl
  rotate_left
  · simp only [Act.put, List.setIfInBounds_toArray, List.set_cons_zero, List.set_cons_succ, i64_w, i32_w]
    rfl
  refine take_ (i := 1) (N := some 28) (v := ?_) (a' := ?_) #[true, true, true, false, false, false] rfl rfl (by kernel_rfl) (fun _ _ _ h => h) (Or.inl ⟨by rfl, ?_⟩) hHeld ?_ ?_
  rotate_left
  · rintro w' ⟨s0, s1⟩
    go_simp
    with_reducible rfl
  rotate_left
  · simp only [Act.put, List.setIfInBounds_toArray, List.set_cons_zero, List.set_cons_succ, i64_w, i32_w]
    rfl
  refine pure_ (i := 4) (N := some 2) (v := ?_) (a' := ?_) #[true, true, true, false, true, false] rfl rfl (by kernel_rfl) (fun _ _ _ h => h) (Or.inl ⟨by rfl, ?_⟩) ?_ ?_
  rotate_left
  · intro w'
    go_simp
    with_reducible rfl
  rotate_left
  · simp only [Act.put, List.setIfInBounds_toArray, List.set_cons_zero, List.set_cons_succ, i64_w, i32_w]
    rfl
  refine take_ (i := 3) (N := some 30) (v := ?_) (a' := ?_) #[true, true, true, true, true, false] rfl rfl (by kernel_rfl) (fun _ _ _ h => h) (Or.inl ⟨by rfl, ?_⟩) hHeld ?_ ?_
  rotate_left
  · rintro w' ⟨s0, s1⟩
    go_simp
    with_reducible rfl
  rotate_left
  · simp only [Act.put, List.setIfInBounds_toArray, List.set_cons_zero, List.set_cons_succ, i64_w, i32_w]
    rfl
  refine pure_ (i := 5) (N := some 3) (v := ?_) (a' := ?_) #[true, true, true, true, true, true] rfl rfl (by kernel_rfl) (fun _ _ _ h => h) (Or.inl ⟨by rfl, ?_⟩) ?_ ?_
  rotate_left
  · intro w'
    go_simp
    with_reducible rfl
  rotate_left
  · simp only [Act.put, List.setIfInBounds_toArray, List.set_cons_zero, List.set_cons_succ, i64_w, i32_w]
    rfl
  refine done_ (by kernel_rfl) ?_
  go_wp2
  refine bodyPost_ret (v := .tuple #[.int .i64 t.f0, .string t.f1]) (by simp [results, Try.results24, go_sem]) rfl ⟨rfl, ?_⟩
  repeat' first | exact grown_refl _ _ | refine grown_drew ?_ | refine grown_alloc ?_ _ | refine grown_drewN ?_ _
set_option maxHeartbeats 4000000 in
set_option maxRecDepth 100000 in
theorem look_end (h : RE w g A c ts s) (ht : ts[s.at_]? = some t) (hi : 4096 ≤ s.at_) (hk : t.f0 = 4) :
    Calls Try.prog 24 #[.pointer (some ⟨g, 0, none⟩)] w fun e w' => e = .returned (.tuple #[.int .i64 t.f0, .string t.f1]) ∧ w.grownBy w' none := by
  have HP := Aside0.mk h
  have HT := Aside0.mk ht
  obtain ⟨ad, rfl, hx0, hx1, hx2, hx3⟩ := at_T102 h.C (s.at_ : Int) (by omega) (lt_rtok ht)
  rw [rd_rtok ht] at hx0 hx1 hx2 hx3
  have p0 := eq_true (show (0 : Int) ≤ (s.at_ : Int) by omega)
  have q0 := eq_true (lt_rtok ht)
  have h0 := cellAt h.blk 0 rfl
  have h1 := cellAt h.blk 1 rfl
  have y1 := cellAt (blk_alloc h.blk (tokBox t)) 1 rfl
  have hne := h.ne_new
  clear h ht
  have b0 : decide (4096 ≤ (s.at_ : Int)) = true := decide_eq_true (by omega)
  have b1 : (t.f0 != 4) = false := by rw [hk]; rfl
  clear hi hk
  go_enter Try.func24, Try.ntmps24
  go_wp2_with (fail)
  refine start_ (n := 12) (S := fun w' => w'.cell? ⟨g, 0, none⟩ = some (.slice (some ad) ts.length c) ∧ w'.cell? ⟨g, 1, none⟩ = some (.int .i64 s.at_) ∧ w'.cell? (ad.add (s.at_ * 4)) = some (.int .i64 t.f0) ∧ w'.cell? ⟨(ad.add (s.at_ * 4)).block, (ad.add (s.at_ * 4)).off + 1, none⟩ = some (.string t.f1) ∧ w'.cell? ⟨(ad.add (s.at_ * 4)).block, (ad.add (s.at_ * 4)).off + 2, none⟩ = some (.int .i64 t.f2) ∧ w'.cell? ⟨(ad.add (s.at_ * 4)).block, (ad.add (s.at_ * 4)).off + 3, none⟩ = some (.int .i64 t.f3)) (ds := [11]) #[false, false, false, false, false, false, false, false, false, false, false, false] (by kernel_rfl) rfl rfl ⟨h0, h1, hx0, hx1, hx2, hx3⟩ (fun hHeld => ?_)
  refine pure_ (i := 0) (N := some 5) (v := ?_) (a' := ?_) #[true, false, false, false, false, false, false, false, false, false, false, false] rfl rfl (by kernel_rfl) (fun _ _ _ h => h) (Or.inl ⟨by rfl, ?_⟩) ?_ ?_
  rotate_left
  · intro w'
    go_simp
    with_reducible rfl
  rotate_left
  · simp only [Act.put, List.setIfInBounds_toArray, List.set_cons_zero, List.set_cons_succ, i64_w, i32_w]
    rfl
  refine pure_ (i := 1) (N := some 6) (v := ?_) (a' := ?_) #[true, true, false, false, false, false, false, false, false, false, false, false] rfl rfl (by kernel_rfl) (fun _ _ _ h => h) (Or.inl ⟨by rfl, ?_⟩) ?_ ?_
  rotate_left
  · intro w'
    go_simp
    with_reducible rfl
  rotate_left
  · simp only [Act.put, List.setIfInBounds_toArray, List.set_cons_zero, List.set_cons_succ, i64_w, i32_w]
    rfl
  refine pure_ (i := 2) (N := some 7) (v := ?_) (a' := ?_) #[true, true, true, false, false, false, false, false, false, false, false, false] rfl rfl (by kernel_rfl) (fun _ _ _ h => h) (Or.inl ⟨by rfl, ?_⟩) ?_ ?_
  rotate_left
  · intro w'
    go_simp
    with_reducible rfl
  rotate_left
  · simp only [Act.put, List.setIfInBounds_toArray, List.set_cons_zero, List.set_cons_succ, i64_w, i32_w]
    rfl
  refine pure_ (i := 4) (N := some 9) (v := ?_) (a' := ?_) #[true, true, true, false, true, false, false, false, false, false, false, false] rfl rfl (by kernel_rfl) (fun _ _ _ h => h) (Or.inl ⟨by rfl, ?_⟩) ?_ ?_
  rotate_left
  · intro w'
    go_simp
    with_reducible rfl
  rotate_left
  · simp only [Act.put, List.setIfInBounds_toArray, List.set_cons_zero, List.set_cons_succ, i64_w, i32_w]
    rfl
  refine pure_ (i := 5) (N := some 10) (v := ?_) (a' := ?_) #[true, true, true, false, true, true, false, false, false, false, false, false] rfl rfl (by kernel_rfl) (fun _ _ _ h => h) (Or.inl ⟨by rfl, ?_⟩) ?_ ?_
  rotate_left
  · intro w'
    go_simp
    with_reducible rfl
  rotate_left
  · simp only [Act.put, List.setIfInBounds_toArray, List.set_cons_zero, List.set_cons_succ, i64_w, i32_w]
    rfl
  refine pure_ (i := 6) (N := some 11) (v := ?_) (a' := ?_) #[true, true, true, false, true, true, true, false, false, false, false, false] rfl rfl (by kernel_rfl) (fun _ _ _ h => h) (Or.inl ⟨by rfl, ?_⟩) ?_ ?_
  rotate_left
  · intro w'
    go_simp
    with_reducible rfl
  rotate_left
  · simp only [Act.put, List.setIfInBounds_toArray, List.set_cons_zero, List.set_cons_succ, i64_w, i32_w]
    rfl
  refine take_ (i := 3) (N := some 8) (v := ?_) (a' := ?_) #[true, true, true, true, true, true, true, false, false, false, false, false] rfl rfl (by kernel_rfl) (fun _ _ _ h => h) (Or.inl ⟨by rfl, ?_⟩) hHeld ?_ ?_
  rotate_left
  · rintro w' ⟨s0, s1, s2, s3, s4, s5⟩
    go_simp
    with_reducible rfl
  rotate_left
  · simp only [Act.put, List.setIfInBounds_toArray, List.set_cons_zero, List.set_cons_succ, i64_w, i32_w]
    rfl
  refine take_ (i := 7) (N := some 12) (v := ?_) (a' := ?_) #[true, true, true, true, true, true, true, true, false, false, false, false] rfl rfl (by kernel_rfl) (fun _ _ _ h => h) (Or.inl ⟨by rfl, ?_⟩) hHeld ?_ ?_
  rotate_left
  · rintro w' ⟨s0, s1, s2, s3, s4, s5⟩
    go_simp
    with_reducible rfl
  rotate_left
  · simp only [Act.put, List.setIfInBounds_toArray, List.set_cons_zero, List.set_cons_succ, i64_w, i32_w]
    rfl
  refine pure_ (i := 8) (N := some 13) (v := ?_) (a' := ?_) #[true, true, true, true, true, true, true, true, true, false, false, false] rfl rfl (by kernel_rfl) (fun _ _ _ h => h) (Or.inl ⟨by rfl, ?_⟩) ?_ ?_
  rotate_left
  · intro w'
    go_simp
    with_reducible rfl
  rotate_left
  · simp only [Act.put, List.setIfInBounds_toArray, List.set_cons_zero, List.set_cons_succ, i64_w, i32_w]
    rfl
  refine take_ (i := 9) (N := some 14) (v := ?_) (a' := ?_) #[true, true, true, true, true, true, true, true, true, true, false, false] rfl rfl (by kernel_rfl) (fun _ _ _ h => h) (Or.inl ⟨by rfl, ?_⟩) hHeld ?_ ?_
  rotate_left
  · rintro w' ⟨s0, s1, s2, s3, s4, s5⟩
    go_simp
    with_reducible rfl
  rotate_left
  · simp only [Act.put, List.setIfInBounds_toArray, List.set_cons_zero, List.set_cons_succ, i64_w, i32_w]
    rfl
  refine one_ (i := 10) (N := some 4) #[true, true, true, true, true, true, true, true, true, true, true, false] rfl rfl (by kernel_rfl) (by decide) (fun K hK => ?_)
  refine value_ (w1 := ?_) (v := ?_) (by rfl) rfl ?_ ?_
  rotate_left 2
  · go_simp
    constructor
    · rfl
    · rfl
  refine hK.out _ _ ⟨cell_alc hHeld.1 _, cell_alc hHeld.2.1 _, cell_alc hHeld.2.2.1 _, cell_alc hHeld.2.2.2.1 _, cell_alc hHeld.2.2.2.2.1 _, cell_alc hHeld.2.2.2.2.2 _⟩ (fun hHeld => ?_)
  clear hK K
  refine norm_ (a' := ?_) ?_ ?_
  rotate_left
  · show Act.put _ (some 4) _ = _
    simp only [Act.put, List.setIfInBounds_toArray, List.set_cons_zero, List.set_cons_succ, i64_w, i32_w]
    rfl
  refine last_ (i := 11) (N := none) #[true, true, true, true, true, true, true, true, true, true, true, true] rfl rfl (by kernel_rfl) (by decide) (fun K hK => ?_)
  refine skip_ (w1 := ?_) (by rfl) rfl ?_ ?_
  rotate_left
  · go_simp
    rfl
  refine hK.out _ _ ?_
  clear hK K
  refine done_ (by kernel_rfl) ?_
  clear hHeld h0 h1 hx0 hx1 hx2 hx3
  have u0 := cellAt (blk_new w (tokBox t)) 0 rfl
  have u1 := cellAt (blk_new w (tokBox t)) 1 rfl
  go_wp2_with (fail)
  refine start_ (n := 6) (S := fun w' => w'.cell? ⟨w.heap.size, 0, none⟩ = some (.int .i64 t.f0) ∧ w'.cell? ⟨w.heap.size, 1, none⟩ = some (.string t.f1)) (ds := []) #[false, false, false, false, false, false] (by kernel_rfl) rfl rfl ⟨u0, u1⟩ (fun hHeld => ?_)
  refine pure_ (i := 0) (N := some 27) (v := ?_) (a' := ?_) #[true, false, false, false, false, false] rfl rfl (by kernel_rfl) (fun _ _ _ h => h) (Or.inl ⟨by rfl, ?_⟩) ?_ ?_
  rotate_left
  · intro w'
    go_simp
    with_reducible rfl
  rotate_left
  · simp only [Act.put, List.setIfInBounds_toArray, List.set_cons_zero, List.set_cons_succ, i64_w, i32_w]
    rfl
  refine pure_ (i := 2) (N := some 29) (v := ?_) (a' := ?_) #[true, false, true, false, false, false] rfl rfl (by kernel_rfl) (fun _ _ _ h => h) (Or.inl ⟨by rfl, ?_⟩) ?_ ?_
  rotate_left
  · intro w'
    go_simp
    with_reducible rfl
  rotate_left
  · simp only [Act.put, List.setIfInBounds_toArray, List.set_cons_zero, List.set_cons_succ, i64_w, i32_w]
    rfl
  refine take_ (i := 1) (N := some 28) (v := ?_) (a' := ?_) #[true, true, true, false, false, false] rfl rfl (by kernel_rfl) (fun _ _ _ h => h) (Or.inl ⟨by rfl, ?_⟩) hHeld ?_ ?_
  rotate_left
  · rintro w' ⟨s0, s1⟩
    go_simp
    with_reducible rfl
  rotate_left
  · simp only [Act.put, List.setIfInBounds_toArray, List.set_cons_zero, List.set_cons_succ, i64_w, i32_w]
    rfl
  refine pure_ (i := 4) (N := some 2) (v := ?_) (a' := ?_) #[true, true, true, false, true, false] rfl rfl (by kernel_rfl) (fun _ _ _ h => h) (Or.inl ⟨by rfl, ?_⟩) ?_ ?_
  rotate_left
  · intro w'
    go_simp
    with_reducible rfl
  rotate_left
  · simp only [Act.put, List.setIfInBounds_toArray, List.set_cons_zero, List.set_cons_succ, i64_w, i32_w]
    rfl
  refine take_ (i := 3) (N := some 30) (v := ?_) (a' := ?_) #[true, true, true, true, true, false] rfl rfl (by kernel_rfl) (fun _ _ _ h => h) (Or.inl ⟨by rfl, ?_⟩) hHeld ?_ ?_
  rotate_left
  · rintro w' ⟨s0, s1⟩
    go_simp
    with_reducible rfl
  rotate_left
  · simp only [Act.put, List.setIfInBounds_toArray, List.set_cons_zero, List.set_cons_succ, i64_w, i32_w]
    rfl
  refine pure_ (i := 5) (N := some 3) (v := ?_) (a' := ?_) #[true, true, true, true, true, true] rfl rfl (by kernel_rfl) (fun _ _ _ h => h) (Or.inl ⟨by rfl, ?_⟩) ?_ ?_
  rotate_left
  · intro w'
    go_simp
    with_reducible rfl
  rotate_left
  · simp only [Act.put, List.setIfInBounds_toArray, List.set_cons_zero, List.set_cons_succ, i64_w, i32_w]
    rfl
  refine done_ (by kernel_rfl) ?_
  go_wp2
  refine bodyPost_ret (v := .tuple #[.int .i64 t.f0, .string t.f1]) (by simp [results, Try.results24, go_sem]) rfl ⟨rfl, ?_⟩
  repeat' first | exact grown_refl _ _ | refine grown_drew ?_ | refine grown_alloc ?_ _ | refine grown_drewN ?_ _
set_option maxHeartbeats 4000000 in
set_option maxRecDepth 100000 in
theorem look_bad (h : RE w g A c ts s) (ht : ts[s.at_]? = some t) (hi : 4096 ≤ s.at_) (hk : t.f0 ≠ 4) :
    Calls Try.prog 24 #[.pointer (some ⟨g, 0, none⟩)] w fun e w' => e = .returned (.tuple #[.int .i64 t.f0, .string t.f1]) ∧ w.grownBy w' (some g) ∧ RE w' g A c ts (badT t s 6) := by
  have HP := Aside0.mk h
  have HT := Aside0.mk ht
  obtain ⟨ad, rfl, hx0, hx1, hx2, hx3⟩ := at_T102 h.C (s.at_ : Int) (by omega) (lt_rtok ht)
  rw [rd_rtok ht] at hx0 hx1 hx2 hx3
  have p0 := eq_true (show (0 : Int) ≤ (s.at_ : Int) by omega)
  have q0 := eq_true (lt_rtok ht)
  have h0 := cellAt h.blk 0 rfl
  have h1 := cellAt h.blk 1 rfl
  have y1 := cellAt (blk_alloc h.blk (tokBox t)) 1 rfl
  have hne := h.ne_new
  clear h ht
  have b0 : decide (4096 ≤ (s.at_ : Int)) = true := decide_eq_true (by omega)
  have b1 : (t.f0 != 4) = true := bne_iff_ne.mpr hk
  clear hi hk
  go_enter Try.func24, Try.ntmps24
  go_wp2_with (fail)
  refine start_ (n := 12) (S := fun w' => w'.cell? ⟨g, 0, none⟩ = some (.slice (some ad) ts.length c) ∧ w'.cell? ⟨g, 1, none⟩ = some (.int .i64 s.at_) ∧ w'.cell? (ad.add (s.at_ * 4)) = some (.int .i64 t.f0) ∧ w'.cell? ⟨(ad.add (s.at_ * 4)).block, (ad.add (s.at_ * 4)).off + 1, none⟩ = some (.string t.f1) ∧ w'.cell? ⟨(ad.add (s.at_ * 4)).block, (ad.add (s.at_ * 4)).off + 2, none⟩ = some (.int .i64 t.f2) ∧ w'.cell? ⟨(ad.add (s.at_ * 4)).block, (ad.add (s.at_ * 4)).off + 3, none⟩ = some (.int .i64 t.f3)) (ds := [11]) #[false, false, false, false, false, false, false, false, false, false, false, false] (by kernel_rfl) rfl rfl ⟨h0, h1, hx0, hx1, hx2, hx3⟩ (fun hHeld => ?_)
  refine pure_ (i := 0) (N := some 5) (v := ?_) (a' := ?_) #[true, false, false, false, false, false, false, false, false, false, false, false] rfl rfl (by kernel_rfl) (fun _ _ _ h => h) (Or.inl ⟨by rfl, ?_⟩) ?_ ?_
  rotate_left
  · intro w'
    go_simp
    with_reducible rfl
  rotate_left
  · simp only [Act.put, List.setIfInBounds_toArray, List.set_cons_zero, List.set_cons_succ, i64_w, i32_w]
    rfl
  refine pure_ (i := 1) (N := some 6) (v := ?_) (a' := ?_) #[true, true, false, false, false, false, false, false, false, false, false, false] rfl rfl (by kernel_rfl) (fun _ _ _ h => h) (Or.inl ⟨by rfl, ?_⟩) ?_ ?_
  rotate_left
  · intro w'
    go_simp
    with_reducible rfl
  rotate_left
  · simp only [Act.put, List.setIfInBounds_toArray, List.set_cons_zero, List.set_cons_succ, i64_w, i32_w]
    rfl
  refine pure_ (i := 2) (N := some 7) (v := ?_) (a' := ?_) #[true, true, true, false, false, false, false, false, false, false, false, false] rfl rfl (by kernel_rfl) (fun _ _ _ h => h) (Or.inl ⟨by rfl, ?_⟩) ?_ ?_
  rotate_left
  · intro w'
    go_simp
    with_reducible rfl
  rotate_left
  · simp only [Act.put, List.setIfInBounds_toArray, List.set_cons_zero, List.set_cons_succ, i64_w, i32_w]
    rfl
  refine pure_ (i := 4) (N := some 9) (v := ?_) (a' := ?_) #[true, true, true, false, true, false, false, false, false, false, false, false] rfl rfl (by kernel_rfl) (fun _ _ _ h => h) (Or.inl ⟨by rfl, ?_⟩) ?_ ?_
  rotate_left
  · intro w'
    go_simp
    with_reducible rfl
  rotate_left
  · simp only [Act.put, List.setIfInBounds_toArray, List.set_cons_zero, List.set_cons_succ, i64_w, i32_w]
    rfl
  refine pure_ (i := 5) (N := some 10) (v := ?_) (a' := ?_) #[true, true, true, false, true, true, false, false, false, false, false, false] rfl rfl (by kernel_rfl) (fun _ _ _ h => h) (Or.inl ⟨by rfl, ?_⟩) ?_ ?_
  rotate_left
  · intro w'
    go_simp
    with_reducible rfl
  rotate_left
  · simp only [Act.put, List.setIfInBounds_toArray, List.set_cons_zero, List.set_cons_succ, i64_w, i32_w]
    rfl
  refine pure_ (i := 6) (N := some 11) (v := ?_) (a' := ?_) #[true, true, true, false, true, true, true, false, false, false, false, false] rfl rfl (by kernel_rfl) (fun _ _ _ h => h) (Or.inl ⟨by rfl, ?_⟩) ?_ ?_
  rotate_left
  · intro w'
    go_simp
    with_reducible rfl
  rotate_left
  · simp only [Act.put, List.setIfInBounds_toArray, List.set_cons_zero, List.set_cons_succ, i64_w, i32_w]
    rfl
  refine take_ (i := 3) (N := some 8) (v := ?_) (a' := ?_) #[true, true, true, true, true, true, true, false, false, false, false, false] rfl rfl (by kernel_rfl) (fun _ _ _ h => h) (Or.inl ⟨by rfl, ?_⟩) hHeld ?_ ?_
  rotate_left
  · rintro w' ⟨s0, s1, s2, s3, s4, s5⟩
    go_simp
    with_reducible rfl
  rotate_left
  · simp only [Act.put, List.setIfInBounds_toArray, List.set_cons_zero, List.set_cons_succ, i64_w, i32_w]
    rfl
  refine take_ (i := 7) (N := some 12) (v := ?_) (a' := ?_) #[true, true, true, true, true, true, true, true, false, false, false, false] rfl rfl (by kernel_rfl) (fun _ _ _ h => h) (Or.inl ⟨by rfl, ?_⟩) hHeld ?_ ?_
  rotate_left
  · rintro w' ⟨s0, s1, s2, s3, s4, s5⟩
    go_simp
    with_reducible rfl
  rotate_left
  · simp only [Act.put, List.setIfInBounds_toArray, List.set_cons_zero, List.set_cons_succ, i64_w, i32_w]
    rfl
  refine pure_ (i := 8) (N := some 13) (v := ?_) (a' := ?_) #[true, true, true, true, true, true, true, true, true, false, false, false] rfl rfl (by kernel_rfl) (fun _ _ _ h => h) (Or.inl ⟨by rfl, ?_⟩) ?_ ?_
  rotate_left
  · intro w'
    go_simp
    with_reducible rfl
  rotate_left
  · simp only [Act.put, List.setIfInBounds_toArray, List.set_cons_zero, List.set_cons_succ, i64_w, i32_w]
    rfl
  refine take_ (i := 9) (N := some 14) (v := ?_) (a' := ?_) #[true, true, true, true, true, true, true, true, true, true, false, false] rfl rfl (by kernel_rfl) (fun _ _ _ h => h) (Or.inl ⟨by rfl, ?_⟩) hHeld ?_ ?_
  rotate_left
  · rintro w' ⟨s0, s1, s2, s3, s4, s5⟩
    go_simp
    with_reducible rfl
  rotate_left
  · simp only [Act.put, List.setIfInBounds_toArray, List.set_cons_zero, List.set_cons_succ, i64_w, i32_w]
    rfl
  refine one_ (i := 10) (N := some 4) #[true, true, true, true, true, true, true, true, true, true, true, false] rfl rfl (by kernel_rfl) (by decide) (fun K hK => ?_)
  refine value_ (w1 := ?_) (v := ?_) (by rfl) rfl ?_ ?_
  rotate_left 2
  · go_simp
    constructor
    · rfl
    · rfl
  refine hK.out _ _ ⟨cell_alc hHeld.1 _, cell_alc hHeld.2.1 _, cell_alc hHeld.2.2.1 _, cell_alc hHeld.2.2.2.1 _, cell_alc hHeld.2.2.2.2.1 _, cell_alc hHeld.2.2.2.2.2 _⟩ (fun hHeld => ?_)
  clear hK K
  refine norm_ (a' := ?_) ?_ ?_
  rotate_left
  · show Act.put _ (some 4) _ = _
    simp only [Act.put, List.setIfInBounds_toArray, List.set_cons_zero, List.set_cons_succ, i64_w, i32_w]
    rfl
  refine last_ (i := 11) (N := none) #[true, true, true, true, true, true, true, true, true, true, true, true] rfl rfl (by kernel_rfl) (by decide) (fun K hK => ?_)
  refine skip_ (w1 := ?_) (by rfl) rfl ?_ ?_
  rotate_left
  · go_simp
    rfl
  refine hK.out _ _ ?_
  clear hK K
  refine done_ (by kernel_rfl) ?_
  clear hHeld h0 h1 hx0 hx1 hx2 hx3
  go_wp2_with (fail)
  refine (bad_calls (HP.out.grown ?_) HT.out 6).mono ?_
  · repeat' first | exact grown_refl _ _ | refine grown_drew ?_ | refine grown_alloc ?_ _ | refine grown_drewN ?_ _
  rintro e w1 ⟨rfl, hg, hp⟩
  have BX := Aside0.mk (Sw.blk_kept (w := (w.alloc (tokBox t)).drew) (blk_new w (tokBox t)) hg (Ne.symm hne))
  have u0 := cellAt BX.out 0 rfl
  have u1 := cellAt BX.out 1 rfl
  have HP1 := Aside0.mk hp
  have HG1 := Aside0.mk hg
  clear hp hg
  go_wp2_with (fail)
  refine start_ (n := 6) (S := fun w' => w'.cell? ⟨w.heap.size, 0, none⟩ = some (.int .i64 t.f0) ∧ w'.cell? ⟨w.heap.size, 1, none⟩ = some (.string t.f1)) (ds := []) #[false, false, false, false, false, false] (by kernel_rfl) rfl rfl ⟨u0, u1⟩ (fun hHeld => ?_)
  refine pure_ (i := 0) (N := some 27) (v := ?_) (a' := ?_) #[true, false, false, false, false, false] rfl rfl (by kernel_rfl) (fun _ _ _ h => h) (Or.inl ⟨by rfl, ?_⟩) ?_ ?_
  rotate_left
  · intro w'
    go_simp
    with_reducible rfl
  rotate_left
  · simp only [Act.put, List.setIfInBounds_toArray, List.set_cons_zero, List.set_cons_succ, i64_w, i32_w]
    rfl
  refine pure_ (i := 2) (N := some 29) (v := ?_) (a' := ?_) #[true, false, true, false, false, false] rfl rfl (by kernel_rfl) (fun _ _ _ h => h) (Or.inl ⟨by rfl, ?_⟩) ?_ ?_
  rotate_left
  · intro w'
    go_simp
    with_reducible rfl
  rotate_left
  · simp only [Act.put, List.setIfInBounds_toArray, List.set_cons_zero, List.set_cons_succ, i64_w, i32_w]
    rfl
  refine take_ (i := 1) (N := some 28) (v := ?_) (a' := ?_) #[true, true, true, false, false, false] rfl rfl (by kernel_rfl) (fun _ _ _ h => h) (Or.inl ⟨by rfl, ?_⟩) hHeld ?_ ?_
  rotate_left
  · rintro w' ⟨s0, s1⟩
    go_simp
    with_reducible rfl
  rotate_left
  · simp only [Act.put, List.setIfInBounds_toArray, List.set_cons_zero, List.set_cons_succ, i64_w, i32_w]
    rfl
  refine pure_ (i := 4) (N := some 2) (v := ?_) (a' := ?_) #[true, true, true, false, true, false] rfl rfl (by kernel_rfl) (fun _ _ _ h => h) (Or.inl ⟨by rfl, ?_⟩) ?_ ?_
  rotate_left
  · intro w'
    go_simp
    with_reducible rfl
  rotate_left
  · simp only [Act.put, List.setIfInBounds_toArray, List.set_cons_zero, List.set_cons_succ, i64_w, i32_w]
    rfl
  refine take_ (i := 3) (N := some 30) (v := ?_) (a' := ?_) #[true, true, true, true, true, false] rfl rfl (by kernel_rfl) (fun _ _ _ h => h) (Or.inl ⟨by rfl, ?_⟩) hHeld ?_ ?_
  rotate_left
  · rintro w' ⟨s0, s1⟩
    go_simp
    with_reducible rfl
  rotate_left
  · simp only [Act.put, List.setIfInBounds_toArray, List.set_cons_zero, List.set_cons_succ, i64_w, i32_w]
    rfl
  refine pure_ (i := 5) (N := some 3) (v := ?_) (a' := ?_) #[true, true, true, true, true, true] rfl rfl (by kernel_rfl) (fun _ _ _ h => h) (Or.inl ⟨by rfl, ?_⟩) ?_ ?_
  rotate_left
  · intro w'
    go_simp
    with_reducible rfl
  rotate_left
  · simp only [Act.put, List.setIfInBounds_toArray, List.set_cons_zero, List.set_cons_succ, i64_w, i32_w]
    rfl
  refine done_ (by kernel_rfl) ?_
  go_wp2
  refine bodyPost_ret (v := .tuple #[.int .i64 t.f0, .string t.f1]) (by simp [results, Try.results24, go_sem]) rfl ⟨rfl, ?_⟩
  have hg2 := (grown_drew (grown_alloc (grown_refl w (some g)) (tokBox t))).trans HG1.out
  first
    | exact ⟨hg2, HP1.out⟩
    | exact ⟨grown_drew hg2, HP1.out.grown (grown_drew (grown_refl _ _))⟩
theorem look_calls (h : RE w g A c ts s) (ht : ts[s.at_]? = some t) :
    Calls Try.prog 24 #[.pointer (some ⟨g, 0, none⟩)] w fun e w' => e = .returned (.tuple #[.int .i64 t.f0, .string t.f1]) ∧ w.grownBy w' (some g) ∧ RE w' g A c ts (lookT t s) := by
  by_cases h1 : s.at_ < 4096
  · have e : lookT t s = s := by
      unfold lookT farR
      rw [decide_eq_false (by omega)]
      rfl
    rw [e]
    exact (look_low h ht h1).mono fun _ _ hh => ⟨hh.1, grown_some hh.2 _, h.grown hh.2⟩
  · by_cases hk : t.f0 = 4
    · have e : lookT t s = s := by
        unfold lookT farR
        rw [hk]
        simp
      rw [e]
      exact (look_end h ht (by omega) hk).mono fun _ _ hh => ⟨hh.1, grown_some hh.2 _, h.grown hh.2⟩
    · have e : lookT t s = badT t s 6 := by
        unfold lookT farR
        rw [decide_eq_true (by omega), bne_iff_ne.mpr hk]
        rfl
      rw [e]
      exact look_bad h ht (by omega) hk
end
end Go.Proofs.Ytgllncnfhiiobaa.Rw
