/- The walks of the parser: fail. The walks of the parser: peek. The walks of the parser: sign, take, name. What the parser computes: plain functions over tokens. The walks of the parser: take as one contract, around. The walks of the parser: around as one contract, atom. The walks of the parser: atom as one contract. The walks of the parser: row. The walks of the parser: alternation. -/
import Derived.Test.YtdbkooliafkcgaaPx0
import Derived.Test.YtdbkooliafkcgaaLexA
import Derived.Recover
import Derived.WalkSmall
import Derived.Deep.DeepCutAuto
import Derived.Deep.RegionHeld3
import Derived.Deep.AppendLies
import Derived.Deep.CutBlock
set_option linter.unusedVariables false
set_option linter.unusedSimpArgs false
namespace Go.Proofs.Ytdbkooliafkcgaa.Sw
open Go.RowKit Go.Proofs.YtdbkooliafkcgaaW.PrintWords Go.Proofs.YtdbkooliafkcgaaW.PrintLast Go.Proofs.YtdbkooliafkcgaaW.PrintMore Go.Proofs.Ytdbkooliafkcgaa Go.Proofs.Ytdbkooliafkcgaa.P

/-- The parser's block. -/
def PAt (w : World) (g : Nat) (A : Option Addr) (n c : Nat) (at_ op : Int) : Prop :=
  w.heap[g]? = some (.cells #[.slice A n c, .int .i64 at_, .int .i64 op] 83 (0, 0))
theorem cell_alc {w : World} {a : Addr} {v : Value} (h : w.cell? a = some v) (o : Obj) : (w.alloc o).cell? a = some v := by
  have hlt : a.block < w.heap.size := by
    rcases Nat.lt_or_ge a.block w.heap.size with h1 | h1
    · exact h1
    · exfalso
      unfold World.cell? at h
      rw [Array.getElem?_eq_none h1] at h
      simp at h
  have e := Below.heap_alloc w o a.block hlt
  unfold World.cell? at h ⊢
  rw [e]
  exact h
set_option maxHeartbeats 4000000 in
set_option maxRecDepth 100000 in
theorem fail_calls {g : Nat} {A : Option Addr} {c : Nat} {ts : List S94} {at_ op err : Int} {w : World} (hb : PAt w g A ts.length c at_ op)
    (hC : Kd.C k94 w A ts.length ts) (p0 : 0 ≤ at_) (q0 : at_ < (ts.length : Int)) :
    Calls Try.prog 42 #[.pointer (some ⟨g, 0, none⟩), .int .i64 err] w fun e w' => e = .panicked [{ v := .iface 79 (.agg #[.int .i64 (rd_T94 ts at_).f2, .int .i64 (rd_T94 ts at_).f3, .int .i64 err]), recovered := false }] ∧ Below w.heap.size w w' := by
  obtain ⟨ad, rfl, hx0, hx1, hx2, hx3⟩ := at_T94 hC at_ p0 q0
  have h0 : w.cell? ⟨g, 0, none⟩ = some (.slice (some ad) ts.length c) := (blk_cell hb 0).trans rfl
  have h1 : w.cell? ⟨g, 1, none⟩ = some (.int .i64 at_) := (blk_cell hb 1).trans rfl
  have HB := Aside0.mk hb
  clear hb
  have P0 := Aside0.mk p0
  have Q0 := Aside0.mk q0
  replace p0 := eq_true p0
  replace q0 := eq_true q0
  have HC := Aside0.mk hC
  clear hC
  go_enter Try.func42, Try.ntmps42
  go_wp2_with (fail)
  refine start_ (n := 12) (S := fun w' => w'.cell? ⟨g, 0, none⟩ = some (.slice (some ad) ts.length c) ∧ w'.cell? ⟨g, 1, none⟩ = some (.int .i64 at_) ∧ w'.cell? (ad.add (at_.toNat * 4)) = some (.int .i64 (rd_T94 ts at_).f0) ∧ w'.cell? ⟨(ad.add (at_.toNat * 4)).block, (ad.add (at_.toNat * 4)).off + 1, none⟩ = some (.string (rd_T94 ts at_).f1) ∧ w'.cell? ⟨(ad.add (at_.toNat * 4)).block, (ad.add (at_.toNat * 4)).off + 2, none⟩ = some (.int .i64 (rd_T94 ts at_).f2) ∧ w'.cell? ⟨(ad.add (at_.toNat * 4)).block, (ad.add (at_.toNat * 4)).off + 3, none⟩ = some (.int .i64 (rd_T94 ts at_).f3)) (ds := [11]) #[false, false, false, false, false, false, false, false, false, false, false, false] (by kernel_rfl) rfl rfl ⟨h0, h1, hx0, hx1, hx2, hx3⟩ (fun hHeld => ?_)
  refine pure_ (i := 0) (N := some 5) (v := ?_) (a' := ?_) #[true, false, false, false, false, false, false, false, false, false, false, false] rfl rfl (by kernel_rfl) (fun _ _ _ h => h) (Or.inl ⟨by rfl, ?_⟩) ?_ ?_
  rotate_left
  · intro w'
    go_simp
    with_reducible rfl
  rotate_left
  · simp only [Act.put, List.setIfInBounds_toArray, List.set_cons_zero, List.set_cons_succ, i64_w, i32_w]
    rfl
  refine pure_ (i := 1) (N := some 6) (v := ?_) (a' := ?_) #[true, true, false, false, false, false, false, false, false, false, false, false] rfl rfl (by kernel_rfl) (fun _ _ _ h => h) (Or.inl ⟨by rfl, ?_⟩) ?_ ?_
  rotate_left
  · intro w'
    go_simp
    with_reducible rfl
  rotate_left
  · simp only [Act.put, List.setIfInBounds_toArray, List.set_cons_zero, List.set_cons_succ, i64_w, i32_w]
    rfl
  refine pure_ (i := 2) (N := some 7) (v := ?_) (a' := ?_) #[true, true, true, false, false, false, false, false, false, false, false, false] rfl rfl (by kernel_rfl) (fun _ _ _ h => h) (Or.inl ⟨by rfl, ?_⟩) ?_ ?_
  rotate_left
  · intro w'
    go_simp
    with_reducible rfl
  rotate_left
  · simp only [Act.put, List.setIfInBounds_toArray, List.set_cons_zero, List.set_cons_succ, i64_w, i32_w]
    rfl
  refine pure_ (i := 4) (N := some 9) (v := ?_) (a' := ?_) #[true, true, true, false, true, false, false, false, false, false, false, false] rfl rfl (by kernel_rfl) (fun _ _ _ h => h) (Or.inl ⟨by rfl, ?_⟩) ?_ ?_
  rotate_left
  · intro w'
    go_simp
    with_reducible rfl
  rotate_left
  · simp only [Act.put, List.setIfInBounds_toArray, List.set_cons_zero, List.set_cons_succ, i64_w, i32_w]
    rfl
  refine pure_ (i := 5) (N := some 10) (v := ?_) (a' := ?_) #[true, true, true, false, true, true, false, false, false, false, false, false] rfl rfl (by kernel_rfl) (fun _ _ _ h => h) (Or.inl ⟨by rfl, ?_⟩) ?_ ?_
  rotate_left
  · intro w'
    go_simp
    with_reducible rfl
  rotate_left
  · simp only [Act.put, List.setIfInBounds_toArray, List.set_cons_zero, List.set_cons_succ, i64_w, i32_w]
    rfl
  refine pure_ (i := 6) (N := some 11) (v := ?_) (a' := ?_) #[true, true, true, false, true, true, true, false, false, false, false, false] rfl rfl (by kernel_rfl) (fun _ _ _ h => h) (Or.inl ⟨by rfl, ?_⟩) ?_ ?_
  rotate_left
  · intro w'
    go_simp
    with_reducible rfl
  rotate_left
  · simp only [Act.put, List.setIfInBounds_toArray, List.set_cons_zero, List.set_cons_succ, i64_w, i32_w]
    rfl
  refine take_ (i := 3) (N := some 8) (v := ?_) (a' := ?_) #[true, true, true, true, true, true, true, false, false, false, false, false] rfl rfl (by kernel_rfl) (fun _ _ _ h => h) (Or.inl ⟨by rfl, ?_⟩) hHeld ?_ ?_
  rotate_left
  · rintro w' ⟨s0, s1, s2, s3, s4, s5⟩
    go_simp
    with_reducible rfl
  rotate_left
  · simp only [Act.put, List.setIfInBounds_toArray, List.set_cons_zero, List.set_cons_succ, i64_w, i32_w]
    rfl
  refine take_ (i := 7) (N := some 12) (v := ?_) (a' := ?_) #[true, true, true, true, true, true, true, true, false, false, false, false] rfl rfl (by kernel_rfl) (fun _ _ _ h => h) (Or.inl ⟨by rfl, ?_⟩) hHeld ?_ ?_
  rotate_left
  · rintro w' ⟨s0, s1, s2, s3, s4, s5⟩
    go_simp
    with_reducible rfl
  rotate_left
  · simp only [Act.put, List.setIfInBounds_toArray, List.set_cons_zero, List.set_cons_succ, i64_w, i32_w]
    rfl
  refine pure_ (i := 8) (N := some 13) (v := ?_) (a' := ?_) #[true, true, true, true, true, true, true, true, true, false, false, false] rfl rfl (by kernel_rfl) (fun _ _ _ h => h) (Or.inl ⟨by rfl, ?_⟩) ?_ ?_
  rotate_left
  · intro w'
    go_simp
    with_reducible rfl
  rotate_left
  · simp only [Act.put, List.setIfInBounds_toArray, List.set_cons_zero, List.set_cons_succ, i64_w, i32_w]
    rfl
  refine take_ (i := 9) (N := some 14) (v := ?_) (a' := ?_) #[true, true, true, true, true, true, true, true, true, true, false, false] rfl rfl (by kernel_rfl) (fun _ _ _ h => h) (Or.inl ⟨by rfl, ?_⟩) hHeld ?_ ?_
  rotate_left
  · rintro w' ⟨s0, s1, s2, s3, s4, s5⟩
    go_simp
    with_reducible rfl
  rotate_left
  · simp only [Act.put, List.setIfInBounds_toArray, List.set_cons_zero, List.set_cons_succ, i64_w, i32_w]
    rfl
  refine one_ (i := 10) (N := some 4) #[true, true, true, true, true, true, true, true, true, true, true, false] rfl rfl (by kernel_rfl) (by decide) (fun K hK => ?_)
  refine value_ (w1 := ?_) (v := ?_) (by rfl) rfl ?_ ?_
  rotate_left 2
  · go_simp
    constructor
    · rfl
    · rfl
  refine hK.out _ _ ⟨cell_alc hHeld.1 _, cell_alc hHeld.2.1 _, cell_alc hHeld.2.2.1 _, cell_alc hHeld.2.2.2.1 _, cell_alc hHeld.2.2.2.2.1 _, cell_alc hHeld.2.2.2.2.2 _⟩ (fun hHeld => ?_)
  clear hK K
  refine norm_ (a' := ?_) ?_ ?_
  rotate_left
  · show Act.put _ (some 4) _ = _
    simp only [Act.put, List.setIfInBounds_toArray, List.set_cons_zero, List.set_cons_succ, i64_w, i32_w]
    rfl
  refine last_ (i := 11) (N := none) #[true, true, true, true, true, true, true, true, true, true, true, true] rfl rfl (by kernel_rfl) (by decide) (fun K hK => ?_)
  refine skip_ (w1 := ?_) (by rfl) rfl ?_ ?_
  rotate_left
  · go_simp
    rfl
  refine hK.out _ _ ?_
  clear hK K
  refine done_ (by kernel_rfl) ?_
  go_wp2
  simp only [bodyPost]
  first
    | exact ⟨rfl, below_alloc (Below.refl _ _) _⟩
    | exact ⟨rfl, rfl, below_alloc (Below.refl _ _) _⟩
    | exact ⟨trivial, trivial, below_drew1 (below_alloc (Below.refl _ _) _)⟩
end Go.Proofs.Ytdbkooliafkcgaa.Sw

set_option linter.unusedVariables false
set_option linter.unusedSimpArgs false
namespace Go.Proofs.Ytdbkooliafkcgaa.Sw
open Go.RowKit Go.Proofs.YtdbkooliafkcgaaW.PrintWords Go.Proofs.YtdbkooliafkcgaaW.PrintLast Go.Proofs.YtdbkooliafkcgaaW.PrintMore Go.Proofs.Ytdbkooliafkcgaa Go.Proofs.Ytdbkooliafkcgaa.P Go.Proofs.Ytdbkooliafkcgaa.Lw

/-- The panic of a wrong text. -/
abbrev Wrong (l c e : Int) : Ending := .panicked [{ v := .iface 79 (.agg #[.int .i64 l, .int .i64 c, .int .i64 e]), recovered := false }]
/-- The parser's block, its tokens. -/
structure PE (w : World) (g : Nat) (A : Option Addr) (c : Nat) (ts : List S94) (i op : Nat) : Prop where
  blk : PAt w g A ts.length c i op
  tok : Kd.R k94 94 w 0 (fun k => k ≠ g) (.slice A ts.length c) ts
section
variable {w w' : World} {g : Nat} {A : Option Addr} {c : Nat} {ts : List S94} {i op : Nat}
theorem PE.C (h : PE w g A c ts i op) : Kd.C k94 w A ts.length ts := (Kd.R_reads' h.tok).2.2
theorem PE.lt (h : PE w g A c ts i op) : g < w.heap.size := blk_lt h.blk
theorem PE.grown (h : PE w g A c ts i op) (hg : w.grownBy w' none) : PE w' g A c ts i op :=
  ⟨blk_grown h.blk hg (by simp), Kd.R_grown h.tok hg (by simp)⟩
theorem PE.step {i' op' : Nat} (h : PE w g A c ts i op) (hg : w.grownBy w' (some g)) (hb : PAt w' g A ts.length c i' op') : PE w' g A c ts i' op' :=
  ⟨hb, Kd.R_grown h.tok hg (fun k hk e => hk (by injection e))⟩
end
theorem rd_tok {ts : List S94} {i : Nat} {t : S94} (h : ts[i]? = some t) : rd_T94 ts (i : Int) = t := by
  unfold rd_T94
  simp [List.getD, h]
theorem lt_tok {ts : List S94} {i : Nat} {t : S94} (h : ts[i]? = some t) : (i : Int) < (ts.length : Int) := by
  have := (List.getElem?_eq_some_iff.1 h).1
  omega
theorem fail_at {g : Nat} {A : Option Addr} {c : Nat} {ts : List S94} {i op : Nat} {w : World} {t : S94} (h : PE w g A c ts i op) (ht : ts[i]? = some t) (err : Int) :
    Calls Try.prog 42 #[.pointer (some ⟨g, 0, none⟩), .int .i64 err] w fun e w' => e = Wrong t.f2 t.f3 err ∧ w.grownBy w' none := by
  refine (fail_calls h.blk h.C (by omega) (lt_tok ht)).mono fun e w' hh => ?_
  rw [rd_tok ht] at hh
  exact ⟨hh.1, grown_of_below hh.2 none⟩

set_option maxHeartbeats 4000000 in
set_option maxRecDepth 100000 in
theorem peek_low {g : Nat} {A : Option Addr} {c : Nat} {ts : List S94} {i op : Nat} {w : World} {t : S94} (h : PE w g A c ts i op) (ht : ts[i]? = some t) (hi : i < 4096) :
    Calls Try.prog 41 #[.pointer (some ⟨g, 0, none⟩)] w fun e w' => e = .returned (.agg #[.int .i64 t.f0, .string t.f1, .int .i64 t.f2, .int .i64 t.f3]) ∧ w.grownBy w' none := by
  obtain ⟨ad, rfl, hx0, hx1, hx2, hx3⟩ := at_T94 (Kd.C_alloc h.C (.cells #[.int .i64 0, .string ⟨#[]⟩, .int .i64 0, .int .i64 0] 94)) (i : Int) (by omega) (lt_tok ht)
  rw [rd_tok ht] at hx0 hx1 hx2 hx3
  have HP := Aside0.mk h
  have p0 := eq_true (show (0 : Int) ≤ (i : Int) by omega)
  have q0 := eq_true (lt_tok ht)
  have HT := Aside0.mk ht
  have hb := blk_alloc h.blk (.cells #[.int .i64 0, .string ⟨#[]⟩, .int .i64 0, .int .i64 0] 94)
  have h0 : (w.alloc (.cells #[.int .i64 0, .string ⟨#[]⟩, .int .i64 0, .int .i64 0] 94)).cell? ⟨g, 0, none⟩ = some (.slice (some ad) ts.length c) := (blk_cell hb 0).trans rfl
  have h1 : (w.alloc (.cells #[.int .i64 0, .string ⟨#[]⟩, .int .i64 0, .int .i64 0] 94)).cell? ⟨g, 1, none⟩ = some (.int .i64 i) := (blk_cell hb 1).trans rfl
  clear hb h ht
  have b0 : decide (4096 ≤ (i : Int)) = false := decide_eq_false (by omega)
  clear hi
  go_enter Try.func41, Try.ntmps41
  go_wp2_with (fail)
  refine start_ (n := 12) (S := fun w' => w'.cell? ⟨g, 0, none⟩ = some (.slice (some ad) ts.length c) ∧ w'.cell? ⟨g, 1, none⟩ = some (.int .i64 i) ∧ w'.cell? (ad.add (i * 4)) = some (.int .i64 t.f0) ∧ w'.cell? ⟨(ad.add (i * 4)).block, (ad.add (i * 4)).off + 1, none⟩ = some (.string t.f1) ∧ w'.cell? ⟨(ad.add (i * 4)).block, (ad.add (i * 4)).off + 2, none⟩ = some (.int .i64 t.f2) ∧ w'.cell? ⟨(ad.add (i * 4)).block, (ad.add (i * 4)).off + 3, none⟩ = some (.int .i64 t.f3)) (ds := [11]) #[false, false, false, false, false, false, false, false, false, false, false, false] (by kernel_rfl) rfl rfl ⟨h0, h1, hx0, hx1, hx2, hx3⟩ (fun hHeld => ?_)
  refine pure_ (i := 0) (N := some 4) (v := ?_) (a' := ?_) #[true, false, false, false, false, false, false, false, false, false, false, false] rfl rfl (by kernel_rfl) (fun _ _ _ h => h) (Or.inl ⟨by rfl, ?_⟩) ?_ ?_
  rotate_left
  · intro w'
    go_simp
    with_reducible rfl
  rotate_left
  · simp only [Act.put, List.setIfInBounds_toArray, List.set_cons_zero, List.set_cons_succ, i64_w, i32_w]
    rfl
  refine pure_ (i := 1) (N := some 5) (v := ?_) (a' := ?_) #[true, true, false, false, false, false, false, false, false, false, false, false] rfl rfl (by kernel_rfl) (fun _ _ _ h => h) (Or.inl ⟨by rfl, ?_⟩) ?_ ?_
  rotate_left
  · intro w'
    go_simp
    with_reducible rfl
  rotate_left
  · simp only [Act.put, List.setIfInBounds_toArray, List.set_cons_zero, List.set_cons_succ, i64_w, i32_w]
    rfl
  refine pure_ (i := 2) (N := some 6) (v := ?_) (a' := ?_) #[true, true, true, false, false, false, false, false, false, false, false, false] rfl rfl (by kernel_rfl) (fun _ _ _ h => h) (Or.inl ⟨by rfl, ?_⟩) ?_ ?_
  rotate_left
  · intro w'
    go_simp
    with_reducible rfl
  rotate_left
  · simp only [Act.put, List.setIfInBounds_toArray, List.set_cons_zero, List.set_cons_succ, i64_w, i32_w]
    rfl
  refine pure_ (i := 4) (N := some 8) (v := ?_) (a' := ?_) #[true, true, true, false, true, false, false, false, false, false, false, false] rfl rfl (by kernel_rfl) (fun _ _ _ h => h) (Or.inl ⟨by rfl, ?_⟩) ?_ ?_
  rotate_left
  · intro w'
    go_simp
    with_reducible rfl
  rotate_left
  · simp only [Act.put, List.setIfInBounds_toArray, List.set_cons_zero, List.set_cons_succ, i64_w, i32_w]
    rfl
  refine pure_ (i := 5) (N := some 9) (v := ?_) (a' := ?_) #[true, true, true, false, true, true, false, false, false, false, false, false] rfl rfl (by kernel_rfl) (fun _ _ _ h => h) (Or.inl ⟨by rfl, ?_⟩) ?_ ?_
  rotate_left
  · intro w'
    go_simp
    with_reducible rfl
  rotate_left
  · simp only [Act.put, List.setIfInBounds_toArray, List.set_cons_zero, List.set_cons_succ, i64_w, i32_w]
    rfl
  refine pure_ (i := 6) (N := some 10) (v := ?_) (a' := ?_) #[true, true, true, false, true, true, true, false, false, false, false, false] rfl rfl (by kernel_rfl) (fun _ _ _ h => h) (Or.inl ⟨by rfl, ?_⟩) ?_ ?_
  rotate_left
  · intro w'
    go_simp
    with_reducible rfl
  rotate_left
  · simp only [Act.put, List.setIfInBounds_toArray, List.set_cons_zero, List.set_cons_succ, i64_w, i32_w]
    rfl
  refine take_ (i := 3) (N := some 7) (v := ?_) (a' := ?_) #[true, true, true, true, true, true, true, false, false, false, false, false] rfl rfl (by kernel_rfl) (fun _ _ _ h => h) (Or.inl ⟨by rfl, ?_⟩) hHeld ?_ ?_
  rotate_left
  · rintro w' ⟨s0, s1, s2, s3, s4, s5⟩
    go_simp
    with_reducible rfl
  rotate_left
  · simp only [Act.put, List.setIfInBounds_toArray, List.set_cons_zero, List.set_cons_succ, i64_w, i32_w]
    rfl
  refine take_ (i := 7) (N := some 11) (v := ?_) (a' := ?_) #[true, true, true, true, true, true, true, true, false, false, false, false] rfl rfl (by kernel_rfl) (fun _ _ _ h => h) (Or.inl ⟨by rfl, ?_⟩) hHeld ?_ ?_
  rotate_left
  · rintro w' ⟨s0, s1, s2, s3, s4, s5⟩
    go_simp
    with_reducible rfl
  rotate_left
  · simp only [Act.put, List.setIfInBounds_toArray, List.set_cons_zero, List.set_cons_succ, i64_w, i32_w]
    rfl
  refine pure_ (i := 8) (N := some 12) (v := ?_) (a' := ?_) #[true, true, true, true, true, true, true, true, true, false, false, false] rfl rfl (by kernel_rfl) (fun _ _ _ h => h) (Or.inl ⟨by rfl, ?_⟩) ?_ ?_
  rotate_left
  · intro w'
    go_simp
    with_reducible rfl
  rotate_left
  · simp only [Act.put, List.setIfInBounds_toArray, List.set_cons_zero, List.set_cons_succ, i64_w, i32_w]
    rfl
  refine take_ (i := 9) (N := some 13) (v := ?_) (a' := ?_) #[true, true, true, true, true, true, true, true, true, true, false, false] rfl rfl (by kernel_rfl) (fun _ _ _ h => h) (Or.inl ⟨by rfl, ?_⟩) hHeld ?_ ?_
  rotate_left
  · rintro w' ⟨s0, s1, s2, s3, s4, s5⟩
    go_simp
    with_reducible rfl
  rotate_left
  · simp only [Act.put, List.setIfInBounds_toArray, List.set_cons_zero, List.set_cons_succ, i64_w, i32_w]
    rfl
  refine one_ (i := 10) (N := some 3) #[true, true, true, true, true, true, true, true, true, true, true, false] rfl rfl (by kernel_rfl) (by decide) (fun K hK => ?_)
  refine value_ (w1 := ?_) (v := ?_) (by rfl) rfl ?_ ?_
  rotate_left 2
  · go_simp
    constructor
    · rfl
    · rfl
  refine hK.out _ _ ⟨cell_alc hHeld.1 _, cell_alc hHeld.2.1 _, cell_alc hHeld.2.2.1 _, cell_alc hHeld.2.2.2.1 _, cell_alc hHeld.2.2.2.2.1 _, cell_alc hHeld.2.2.2.2.2 _⟩ (fun hHeld => ?_)
  clear hK K
  refine norm_ (a' := ?_) ?_ ?_
  rotate_left
  · show Act.put _ (some 3) _ = _
    simp only [Act.put, List.setIfInBounds_toArray, List.set_cons_zero, List.set_cons_succ, i64_w, i32_w]
    rfl
  refine last_ (i := 11) (N := none) #[true, true, true, true, true, true, true, true, true, true, true, true] rfl rfl (by kernel_rfl) (by decide) (fun K hK => ?_)
  refine skip_ (w1 := ?_) (by rfl) rfl ?_ ?_
  rotate_left
  · go_simp
    rfl
  refine hK.out _ _ ?_
  clear hK K
  refine done_ (by kernel_rfl) ?_
  have k1 := fun o => cell_alc h1 o
  clear hHeld h0 h1 hx0 hx1 hx2 hx3
  go_wp2
  refine bodyPost_ret (v := .agg #[.int .i64 t.f0, .string t.f1, .int .i64 t.f2, .int .i64 t.f3]) (by simp [results, Try.results41, go_sem]) rfl ⟨rfl, ?_⟩
  repeat' first | exact grown_refl _ _ | refine grown_drew ?_ | refine grown_alloc ?_ _ | refine grown_drewN ?_ _
set_option maxHeartbeats 4000000 in
set_option maxRecDepth 100000 in
theorem peek_end {g : Nat} {A : Option Addr} {c : Nat} {ts : List S94} {i op : Nat} {w : World} {t : S94} (h : PE w g A c ts i op) (ht : ts[i]? = some t) (hi : 4096 ≤ i) (hk : t.f0 = 4) :
    Calls Try.prog 41 #[.pointer (some ⟨g, 0, none⟩)] w fun e w' => e = .returned (.agg #[.int .i64 t.f0, .string t.f1, .int .i64 t.f2, .int .i64 t.f3]) ∧ w.grownBy w' none := by
  obtain ⟨ad, rfl, hx0, hx1, hx2, hx3⟩ := at_T94 (Kd.C_alloc h.C (.cells #[.int .i64 0, .string ⟨#[]⟩, .int .i64 0, .int .i64 0] 94)) (i : Int) (by omega) (lt_tok ht)
  rw [rd_tok ht] at hx0 hx1 hx2 hx3
  have HP := Aside0.mk h
  have p0 := eq_true (show (0 : Int) ≤ (i : Int) by omega)
  have q0 := eq_true (lt_tok ht)
  have HT := Aside0.mk ht
  have hb := blk_alloc h.blk (.cells #[.int .i64 0, .string ⟨#[]⟩, .int .i64 0, .int .i64 0] 94)
  have h0 : (w.alloc (.cells #[.int .i64 0, .string ⟨#[]⟩, .int .i64 0, .int .i64 0] 94)).cell? ⟨g, 0, none⟩ = some (.slice (some ad) ts.length c) := (blk_cell hb 0).trans rfl
  have h1 : (w.alloc (.cells #[.int .i64 0, .string ⟨#[]⟩, .int .i64 0, .int .i64 0] 94)).cell? ⟨g, 1, none⟩ = some (.int .i64 i) := (blk_cell hb 1).trans rfl
  clear hb h ht
  have b0 : decide (4096 ≤ (i : Int)) = true := decide_eq_true (by omega)
  have b1 : (t.f0 != 4) = false := by rw [hk]; rfl
  clear hi hk
  go_enter Try.func41, Try.ntmps41
  go_wp2_with (fail)
  refine start_ (n := 12) (S := fun w' => w'.cell? ⟨g, 0, none⟩ = some (.slice (some ad) ts.length c) ∧ w'.cell? ⟨g, 1, none⟩ = some (.int .i64 i) ∧ w'.cell? (ad.add (i * 4)) = some (.int .i64 t.f0) ∧ w'.cell? ⟨(ad.add (i * 4)).block, (ad.add (i * 4)).off + 1, none⟩ = some (.string t.f1) ∧ w'.cell? ⟨(ad.add (i * 4)).block, (ad.add (i * 4)).off + 2, none⟩ = some (.int .i64 t.f2) ∧ w'.cell? ⟨(ad.add (i * 4)).block, (ad.add (i * 4)).off + 3, none⟩ = some (.int .i64 t.f3)) (ds := [11]) #[false, false, false, false, false, false, false, false, false, false, false, false] (by kernel_rfl) rfl rfl ⟨h0, h1, hx0, hx1, hx2, hx3⟩ (fun hHeld => ?_)
  refine pure_ (i := 0) (N := some 4) (v := ?_) (a' := ?_) #[true, false, false, false, false, false, false, false, false, false, false, false] rfl rfl (by kernel_rfl) (fun _ _ _ h => h) (Or.inl ⟨by rfl, ?_⟩) ?_ ?_
  rotate_left
  · intro w'
    go_simp
    with_reducible rfl
  rotate_left
  · simp only [Act.put, List.setIfInBounds_toArray, List.set_cons_zero, List.set_cons_succ, i64_w, i32_w]
    rfl
  refine pure_ (i := 1) (N := some 5) (v := ?_) (a' := ?_) #[true, true, false, false, false, false, false, false, false, false, false, false] rfl rfl (by kernel_rfl) (fun _ _ _ h => h) (Or.inl ⟨by rfl, ?_⟩) ?_ ?_
  rotate_left
  · intro w'
    go_simp
    with_reducible rfl
  rotate_left
  · simp only [Act.put, List.setIfInBounds_toArray, List.set_cons_zero, List.set_cons_succ, i64_w, i32_w]
    rfl
  refine pure_ (i := 2) (N := some 6) (v := ?_) (a' := ?_) #[true, true, true, false, false, false, false, false, false, false, false, false] rfl rfl (by kernel_rfl) (fun _ _ _ h => h) (Or.inl ⟨by rfl, ?_⟩) ?_ ?_
  rotate_left
  · intro w'
    go_simp
    with_reducible rfl
  rotate_left
  · simp only [Act.put, List.setIfInBounds_toArray, List.set_cons_zero, List.set_cons_succ, i64_w, i32_w]
    rfl
  refine pure_ (i := 4) (N := some 8) (v := ?_) (a' := ?_) #[true, true, true, false, true, false, false, false, false, false, false, false] rfl rfl (by kernel_rfl) (fun _ _ _ h => h) (Or.inl ⟨by rfl, ?_⟩) ?_ ?_
  rotate_left
  · intro w'
    go_simp
    with_reducible rfl
  rotate_left
  · simp only [Act.put, List.setIfInBounds_toArray, List.set_cons_zero, List.set_cons_succ, i64_w, i32_w]
    rfl
  refine pure_ (i := 5) (N := some 9) (v := ?_) (a' := ?_) #[true, true, true, false, true, true, false, false, false, false, false, false] rfl rfl (by kernel_rfl) (fun _ _ _ h => h) (Or.inl ⟨by rfl, ?_⟩) ?_ ?_
  rotate_left
  · intro w'
    go_simp
    with_reducible rfl
  rotate_left
  · simp only [Act.put, List.setIfInBounds_toArray, List.set_cons_zero, List.set_cons_succ, i64_w, i32_w]
    rfl
  refine pure_ (i := 6) (N := some 10) (v := ?_) (a' := ?_) #[true, true, true, false, true, true, true, false, false, false, false, false] rfl rfl (by kernel_rfl) (fun _ _ _ h => h) (Or.inl ⟨by rfl, ?_⟩) ?_ ?_
  rotate_left
  · intro w'
    go_simp
    with_reducible rfl
  rotate_left
  · simp only [Act.put, List.setIfInBounds_toArray, List.set_cons_zero, List.set_cons_succ, i64_w, i32_w]
    rfl
  refine take_ (i := 3) (N := some 7) (v := ?_) (a' := ?_) #[true, true, true, true, true, true, true, false, false, false, false, false] rfl rfl (by kernel_rfl) (fun _ _ _ h => h) (Or.inl ⟨by rfl, ?_⟩) hHeld ?_ ?_
  rotate_left
  · rintro w' ⟨s0, s1, s2, s3, s4, s5⟩
    go_simp
    with_reducible rfl
  rotate_left
  · simp only [Act.put, List.setIfInBounds_toArray, List.set_cons_zero, List.set_cons_succ, i64_w, i32_w]
    rfl
  refine take_ (i := 7) (N := some 11) (v := ?_) (a' := ?_) #[true, true, true, true, true, true, true, true, false, false, false, false] rfl rfl (by kernel_rfl) (fun _ _ _ h => h) (Or.inl ⟨by rfl, ?_⟩) hHeld ?_ ?_
  rotate_left
  · rintro w' ⟨s0, s1, s2, s3, s4, s5⟩
    go_simp
    with_reducible rfl
  rotate_left
  · simp only [Act.put, List.setIfInBounds_toArray, List.set_cons_zero, List.set_cons_succ, i64_w, i32_w]
    rfl
  refine pure_ (i := 8) (N := some 12) (v := ?_) (a' := ?_) #[true, true, true, true, true, true, true, true, true, false, false, false] rfl rfl (by kernel_rfl) (fun _ _ _ h => h) (Or.inl ⟨by rfl, ?_⟩) ?_ ?_
  rotate_left
  · intro w'
    go_simp
    with_reducible rfl
  rotate_left
  · simp only [Act.put, List.setIfInBounds_toArray, List.set_cons_zero, List.set_cons_succ, i64_w, i32_w]
    rfl
  refine take_ (i := 9) (N := some 13) (v := ?_) (a' := ?_) #[true, true, true, true, true, true, true, true, true, true, false, false] rfl rfl (by kernel_rfl) (fun _ _ _ h => h) (Or.inl ⟨by rfl, ?_⟩) hHeld ?_ ?_
  rotate_left
  · rintro w' ⟨s0, s1, s2, s3, s4, s5⟩
    go_simp
    with_reducible rfl
  rotate_left
  · simp only [Act.put, List.setIfInBounds_toArray, List.set_cons_zero, List.set_cons_succ, i64_w, i32_w]
    rfl
  refine one_ (i := 10) (N := some 3) #[true, true, true, true, true, true, true, true, true, true, true, false] rfl rfl (by kernel_rfl) (by decide) (fun K hK => ?_)
  refine value_ (w1 := ?_) (v := ?_) (by rfl) rfl ?_ ?_
  rotate_left 2
  · go_simp
    constructor
    · rfl
    · rfl
  refine hK.out _ _ ⟨cell_alc hHeld.1 _, cell_alc hHeld.2.1 _, cell_alc hHeld.2.2.1 _, cell_alc hHeld.2.2.2.1 _, cell_alc hHeld.2.2.2.2.1 _, cell_alc hHeld.2.2.2.2.2 _⟩ (fun hHeld => ?_)
  clear hK K
  refine norm_ (a' := ?_) ?_ ?_
  rotate_left
  · show Act.put _ (some 3) _ = _
    simp only [Act.put, List.setIfInBounds_toArray, List.set_cons_zero, List.set_cons_succ, i64_w, i32_w]
    rfl
  refine last_ (i := 11) (N := none) #[true, true, true, true, true, true, true, true, true, true, true, true] rfl rfl (by kernel_rfl) (by decide) (fun K hK => ?_)
  refine skip_ (w1 := ?_) (by rfl) rfl ?_ ?_
  rotate_left
  · go_simp
    rfl
  refine hK.out _ _ ?_
  clear hK K
  refine done_ (by kernel_rfl) ?_
  have k1 := fun o => cell_alc h1 o
  clear hHeld h0 h1 hx0 hx1 hx2 hx3
  go_wp2
  refine bodyPost_ret (v := .agg #[.int .i64 t.f0, .string t.f1, .int .i64 t.f2, .int .i64 t.f3]) (by simp [results, Try.results41, go_sem]) rfl ⟨rfl, ?_⟩
  repeat' first | exact grown_refl _ _ | refine grown_drew ?_ | refine grown_alloc ?_ _ | refine grown_drewN ?_ _
set_option maxHeartbeats 4000000 in
set_option maxRecDepth 100000 in
theorem peek_bad {g : Nat} {A : Option Addr} {c : Nat} {ts : List S94} {i op : Nat} {w : World} {t : S94} (h : PE w g A c ts i op) (ht : ts[i]? = some t) (hi : 4096 ≤ i) (hk : t.f0 ≠ 4) :
    Calls Try.prog 41 #[.pointer (some ⟨g, 0, none⟩)] w fun e w' => e = Wrong t.f2 t.f3 6 ∧ w.grownBy w' none := by
  obtain ⟨ad, rfl, hx0, hx1, hx2, hx3⟩ := at_T94 (Kd.C_alloc h.C (.cells #[.int .i64 0, .string ⟨#[]⟩, .int .i64 0, .int .i64 0] 94)) (i : Int) (by omega) (lt_tok ht)
  rw [rd_tok ht] at hx0 hx1 hx2 hx3
  have HP := Aside0.mk h
  have p0 := eq_true (show (0 : Int) ≤ (i : Int) by omega)
  have q0 := eq_true (lt_tok ht)
  have HT := Aside0.mk ht
  have hb := blk_alloc h.blk (.cells #[.int .i64 0, .string ⟨#[]⟩, .int .i64 0, .int .i64 0] 94)
  have h0 : (w.alloc (.cells #[.int .i64 0, .string ⟨#[]⟩, .int .i64 0, .int .i64 0] 94)).cell? ⟨g, 0, none⟩ = some (.slice (some ad) ts.length c) := (blk_cell hb 0).trans rfl
  have h1 : (w.alloc (.cells #[.int .i64 0, .string ⟨#[]⟩, .int .i64 0, .int .i64 0] 94)).cell? ⟨g, 1, none⟩ = some (.int .i64 i) := (blk_cell hb 1).trans rfl
  clear hb h ht
  have b0 : decide (4096 ≤ (i : Int)) = true := decide_eq_true (by omega)
  have b1 : (t.f0 != 4) = true := bne_iff_ne.mpr hk
  clear hi hk
  go_enter Try.func41, Try.ntmps41
  go_wp2_with (fail)
  refine start_ (n := 12) (S := fun w' => w'.cell? ⟨g, 0, none⟩ = some (.slice (some ad) ts.length c) ∧ w'.cell? ⟨g, 1, none⟩ = some (.int .i64 i) ∧ w'.cell? (ad.add (i * 4)) = some (.int .i64 t.f0) ∧ w'.cell? ⟨(ad.add (i * 4)).block, (ad.add (i * 4)).off + 1, none⟩ = some (.string t.f1) ∧ w'.cell? ⟨(ad.add (i * 4)).block, (ad.add (i * 4)).off + 2, none⟩ = some (.int .i64 t.f2) ∧ w'.cell? ⟨(ad.add (i * 4)).block, (ad.add (i * 4)).off + 3, none⟩ = some (.int .i64 t.f3)) (ds := [11]) #[false, false, false, false, false, false, false, false, false, false, false, false] (by kernel_rfl) rfl rfl ⟨h0, h1, hx0, hx1, hx2, hx3⟩ (fun hHeld => ?_)
  refine pure_ (i := 0) (N := some 4) (v := ?_) (a' := ?_) #[true, false, false, false, false, false, false, false, false, false, false, false] rfl rfl (by kernel_rfl) (fun _ _ _ h => h) (Or.inl ⟨by rfl, ?_⟩) ?_ ?_
  rotate_left
  · intro w'
    go_simp
    with_reducible rfl
  rotate_left
  · simp only [Act.put, List.setIfInBounds_toArray, List.set_cons_zero, List.set_cons_succ, i64_w, i32_w]
    rfl
  refine pure_ (i := 1) (N := some 5) (v := ?_) (a' := ?_) #[true, true, false, false, false, false, false, false, false, false, false, false] rfl rfl (by kernel_rfl) (fun _ _ _ h => h) (Or.inl ⟨by rfl, ?_⟩) ?_ ?_
  rotate_left
  · intro w'
    go_simp
    with_reducible rfl
  rotate_left
  · simp only [Act.put, List.setIfInBounds_toArray, List.set_cons_zero, List.set_cons_succ, i64_w, i32_w]
    rfl
  refine pure_ (i := 2) (N := some 6) (v := ?_) (a' := ?_) #[true, true, true, false, false, false, false, false, false, false, false, false] rfl rfl (by kernel_rfl) (fun _ _ _ h => h) (Or.inl ⟨by rfl, ?_⟩) ?_ ?_
  rotate_left
  · intro w'
    go_simp
    with_reducible rfl
  rotate_left
  · simp only [Act.put, List.setIfInBounds_toArray, List.set_cons_zero, List.set_cons_succ, i64_w, i32_w]
    rfl
  refine pure_ (i := 4) (N := some 8) (v := ?_) (a' := ?_) #[true, true, true, false, true, false, false, false, false, false, false, false] rfl rfl (by kernel_rfl) (fun _ _ _ h => h) (Or.inl ⟨by rfl, ?_⟩) ?_ ?_
  rotate_left
  · intro w'
    go_simp
    with_reducible rfl
  rotate_left
  · simp only [Act.put, List.setIfInBounds_toArray, List.set_cons_zero, List.set_cons_succ, i64_w, i32_w]
    rfl
  refine pure_ (i := 5) (N := some 9) (v := ?_) (a' := ?_) #[true, true, true, false, true, true, false, false, false, false, false, false] rfl rfl (by kernel_rfl) (fun _ _ _ h => h) (Or.inl ⟨by rfl, ?_⟩) ?_ ?_
  rotate_left
  · intro w'
    go_simp
    with_reducible rfl
  rotate_left
  · simp only [Act.put, List.setIfInBounds_toArray, List.set_cons_zero, List.set_cons_succ, i64_w, i32_w]
    rfl
  refine pure_ (i := 6) (N := some 10) (v := ?_) (a' := ?_) #[true, true, true, false, true, true, true, false, false, false, false, false] rfl rfl (by kernel_rfl) (fun _ _ _ h => h) (Or.inl ⟨by rfl, ?_⟩) ?_ ?_
  rotate_left
  · intro w'
    go_simp
    with_reducible rfl
  rotate_left
  · simp only [Act.put, List.setIfInBounds_toArray, List.set_cons_zero, List.set_cons_succ, i64_w, i32_w]
    rfl
  refine take_ (i := 3) (N := some 7) (v := ?_) (a' := ?_) #[true, true, true, true, true, true, true, false, false, false, false, false] rfl rfl (by kernel_rfl) (fun _ _ _ h => h) (Or.inl ⟨by rfl, ?_⟩) hHeld ?_ ?_
  rotate_left
  · rintro w' ⟨s0, s1, s2, s3, s4, s5⟩
    go_simp
    with_reducible rfl
  rotate_left
  · simp only [Act.put, List.setIfInBounds_toArray, List.set_cons_zero, List.set_cons_succ, i64_w, i32_w]
    rfl
  refine take_ (i := 7) (N := some 11) (v := ?_) (a' := ?_) #[true, true, true, true, true, true, true, true, false, false, false, false] rfl rfl (by kernel_rfl) (fun _ _ _ h => h) (Or.inl ⟨by rfl, ?_⟩) hHeld ?_ ?_
  rotate_left
  · rintro w' ⟨s0, s1, s2, s3, s4, s5⟩
    go_simp
    with_reducible rfl
  rotate_left
  · simp only [Act.put, List.setIfInBounds_toArray, List.set_cons_zero, List.set_cons_succ, i64_w, i32_w]
    rfl
  refine pure_ (i := 8) (N := some 12) (v := ?_) (a' := ?_) #[true, true, true, true, true, true, true, true, true, false, false, false] rfl rfl (by kernel_rfl) (fun _ _ _ h => h) (Or.inl ⟨by rfl, ?_⟩) ?_ ?_
  rotate_left
  · intro w'
    go_simp
    with_reducible rfl
  rotate_left
  · simp only [Act.put, List.setIfInBounds_toArray, List.set_cons_zero, List.set_cons_succ, i64_w, i32_w]
    rfl
  refine take_ (i := 9) (N := some 13) (v := ?_) (a' := ?_) #[true, true, true, true, true, true, true, true, true, true, false, false] rfl rfl (by kernel_rfl) (fun _ _ _ h => h) (Or.inl ⟨by rfl, ?_⟩) hHeld ?_ ?_
  rotate_left
  · rintro w' ⟨s0, s1, s2, s3, s4, s5⟩
    go_simp
    with_reducible rfl
  rotate_left
  · simp only [Act.put, List.setIfInBounds_toArray, List.set_cons_zero, List.set_cons_succ, i64_w, i32_w]
    rfl
  refine one_ (i := 10) (N := some 3) #[true, true, true, true, true, true, true, true, true, true, true, false] rfl rfl (by kernel_rfl) (by decide) (fun K hK => ?_)
  refine value_ (w1 := ?_) (v := ?_) (by rfl) rfl ?_ ?_
  rotate_left 2
  · go_simp
    constructor
    · rfl
    · rfl
  refine hK.out _ _ ⟨cell_alc hHeld.1 _, cell_alc hHeld.2.1 _, cell_alc hHeld.2.2.1 _, cell_alc hHeld.2.2.2.1 _, cell_alc hHeld.2.2.2.2.1 _, cell_alc hHeld.2.2.2.2.2 _⟩ (fun hHeld => ?_)
  clear hK K
  refine norm_ (a' := ?_) ?_ ?_
  rotate_left
  · show Act.put _ (some 3) _ = _
    simp only [Act.put, List.setIfInBounds_toArray, List.set_cons_zero, List.set_cons_succ, i64_w, i32_w]
    rfl
  refine last_ (i := 11) (N := none) #[true, true, true, true, true, true, true, true, true, true, true, true] rfl rfl (by kernel_rfl) (by decide) (fun K hK => ?_)
  refine skip_ (w1 := ?_) (by rfl) rfl ?_ ?_
  rotate_left
  · go_simp
    rfl
  refine hK.out _ _ ?_
  clear hK K
  refine done_ (by kernel_rfl) ?_
  have k1 := fun o => cell_alc h1 o
  clear hHeld h0 h1 hx0 hx1 hx2 hx3
  go_wp2_with (fail)
  refine (fail_at (HP.out.grown ?_) HT.out 6).mono ?_
  · repeat' first | exact grown_refl _ _ | refine grown_drew ?_ | refine grown_alloc ?_ _ | refine grown_drewN ?_ _
  rintro e w1 ⟨rfl, hg⟩
  go_wp2
  simp only [bodyPost, true_and]
  refine World.grownBy.trans ?_ hg
  repeat' first | exact grown_refl _ _ | refine grown_drew ?_ | refine grown_alloc ?_ _ | refine grown_drewN ?_ _
/-- Is the place too far on? -/
def farB (i : Nat) (t : S94) : Bool := decide (4096 ≤ i) && !(t.f0 == 4)
theorem peek_ok {g : Nat} {A : Option Addr} {c : Nat} {ts : List S94} {i op : Nat} {w : World} {t : S94} (h : PE w g A c ts i op) (ht : ts[i]? = some t) (hi : farB i t = false) :
    Calls Try.prog 41 #[.pointer (some ⟨g, 0, none⟩)] w fun e w' => e = .returned (.agg #[.int .i64 t.f0, .string t.f1, .int .i64 t.f2, .int .i64 t.f3]) ∧ w.grownBy w' none := by
  by_cases h1 : i < 4096
  · exact peek_low h ht h1
  · refine peek_end h ht (by omega) ?_
    unfold farB at hi
    simp only [Bool.and_eq_false_iff, decide_eq_false_iff_not, Bool.not_eq_false', beq_iff_eq] at hi
    rcases hi with hi | hi
    · omega
    · exact hi
theorem peek_far {g : Nat} {A : Option Addr} {c : Nat} {ts : List S94} {i op : Nat} {w : World} {t : S94} (h : PE w g A c ts i op) (ht : ts[i]? = some t) (hi : farB i t = true) :
    Calls Try.prog 41 #[.pointer (some ⟨g, 0, none⟩)] w fun e w' => e = Wrong t.f2 t.f3 6 ∧ w.grownBy w' none := by
  unfold farB at hi
  simp only [Bool.and_eq_true, decide_eq_true_eq, Bool.not_eq_true', beq_eq_false_iff_ne] at hi
  exact peek_bad h ht hi.1 hi.2
end Go.Proofs.Ytdbkooliafkcgaa.Sw

set_option linter.unusedVariables false
set_option linter.unusedSimpArgs false
namespace Go.Proofs.Ytdbkooliafkcgaa.Sw
open Go.RowKit Go.Proofs.YtdbkooliafkcgaaW.PrintWords Go.Proofs.YtdbkooliafkcgaaW.PrintLast Go.Proofs.YtdbkooliafkcgaaW.PrintMore Go.Proofs.Ytdbkooliafkcgaa Go.Proofs.Ytdbkooliafkcgaa.P Go.Proofs.Ytdbkooliafkcgaa.Lw

/-- Is the token that sign? -/
def signB (t : S94) (s : ByteArray) : Bool := (t.f0 == 3) && (t.f1.toList == s.toList)
section
variable {g : Nat} {A : Option Addr} {c : Nat} {ts : List S94} {i op : Nat} {w : World} {t : S94}

set_option maxHeartbeats 4000000 in
set_option maxRecDepth 100000 in
theorem sign_far (h : PE w g A c ts i op) (ht : ts[i]? = some t) (hi : farB i t = true) (s : ByteArray) :
    Calls Try.prog 38 #[.pointer (some ⟨g, 0, none⟩), .string s] w fun e w' => e = Wrong t.f2 t.f3 6 ∧ w.grownBy w' none := by
  have HP := Aside0.mk h
  have HT := Aside0.mk ht
  have HF := Aside0.mk hi
  clear h ht hi
  go_enter Try.func38, Try.ntmps38
  go_wp2_with (fail)
  refine (peek_far HP.out HT.out HF.out).mono ?_
  rintro e w1 ⟨rfl, hg⟩
  go_wp2
  simp only [bodyPost, true_and]
  exact hg
set_option maxHeartbeats 4000000 in
set_option maxRecDepth 100000 in
theorem sign_not (h : PE w g A c ts i op) (ht : ts[i]? = some t) (hi : farB i t = false) (s : ByteArray) (hs : (t.f0 == 3) = false) :
    Calls Try.prog 38 #[.pointer (some ⟨g, 0, none⟩), .string s] w fun e w' => e = .returned (.bool false) ∧ w.grownBy w' none := by
  have HP := Aside0.mk h
  have HT := Aside0.mk ht
  have HF := Aside0.mk hi
  clear h ht hi
  go_enter Try.func38, Try.ntmps38
  go_wp2_with (fail)
  refine (peek_ok HP.out HT.out HF.out).mono ?_
  rintro e w1 ⟨rfl, hg⟩
  go_wp2
  go_ret
  exact ⟨rfl, grown_alloc hg _⟩
set_option maxHeartbeats 4000000 in
set_option maxRecDepth 100000 in
theorem sign_if (h : PE w g A c ts i op) (ht : ts[i]? = some t) (hi : farB i t = false) (s : ByteArray) (hs : (t.f0 == 3) = true) :
    Calls Try.prog 38 #[.pointer (some ⟨g, 0, none⟩), .string s] w fun e w' => e = .returned (.bool (t.f1.toList == s.toList)) ∧ w.grownBy w' none := by
  have HP := Aside0.mk h
  have HT := Aside0.mk ht
  have HF := Aside0.mk hi
  clear h ht hi
  go_enter Try.func38, Try.ntmps38
  go_wp2_with (fail)
  refine (peek_ok HP.out HT.out HF.out).mono ?_
  rintro e w1 ⟨rfl, hg⟩
  go_wp2
  go_ret
  exact ⟨rfl, grown_alloc hg _⟩
theorem sign_ok (h : PE w g A c ts i op) (ht : ts[i]? = some t) (hi : farB i t = false) (s : ByteArray) :
    Calls Try.prog 38 #[.pointer (some ⟨g, 0, none⟩), .string s] w fun e w' => e = .returned (.bool (signB t s)) ∧ w.grownBy w' none := by
  unfold signB
  cases hs : t.f0 == 3
  · exact sign_not h ht hi s hs
  · exact sign_if h ht hi s hs
theorem sign_no (h : PE w g A c ts i op) (ht : ts[i]? = some t) (hi : farB i t = false) (s : ByteArray) (hs : signB t s = false) :
    Calls Try.prog 38 #[.pointer (some ⟨g, 0, none⟩), .string s] w fun e w' => e = .returned (.bool false) ∧ w.grownBy w' none := by
  have := sign_ok h ht hi s
  rwa [hs] at this
theorem sign_yes (h : PE w g A c ts i op) (ht : ts[i]? = some t) (hi : farB i t = false) (s : ByteArray) (hs : signB t s = true) :
    Calls Try.prog 38 #[.pointer (some ⟨g, 0, none⟩), .string s] w fun e w' => e = .returned (.bool true) ∧ w.grownBy w' none := by
  have := sign_ok h ht hi s
  rwa [hs] at this

/-- The step to the next token. -/
theorem pat_next {at_ op' : Int} {n : Nat} (h : PAt w g A n c at_ op') (x : Int) : PAt (w.setCell ⟨g, 1, none⟩ (.int .i64 x)) g A n c x op' := by
  have := blk_set h 1 (.int .i64 x)
  unfold PAt
  simpa using this
theorem pat_open {at_ op' : Int} {n : Nat} (h : PAt w g A n c at_ op') (x : Int) : PAt (w.setCell ⟨g, 2, none⟩ (.int .i64 x)) g A n c at_ x := by
  have := blk_set h 2 (.int .i64 x)
  unfold PAt
  simpa using this
theorem PE.small (h : PE w g A c ts i op) (ht : ts[i]? = some t) : (i : Int) + 1 ≤ 9223372036854775807 := by
  have := Kd.C_max h.C
  have := lt_tok ht
  omega
theorem PE.next (h : PE w g A c ts i op) : PE (w.setCell ⟨g, 1, none⟩ (.int .i64 ((i : Int) + 1))) g A c ts (i + 1) op :=
  h.step (grown_set (grown_refl _ _) _ _) (by have := pat_next h.blk ((i : Int) + 1); push_cast; exact this)

set_option maxHeartbeats 4000000 in
set_option maxRecDepth 100000 in
theorem take_far (h : PE w g A c ts i op) (ht : ts[i]? = some t) (hi : farB i t = true) (s : ByteArray) :
    Calls Try.prog 40 #[.pointer (some ⟨g, 0, none⟩), .string s] w fun e w' => e = Wrong t.f2 t.f3 6 ∧ w.grownBy w' none := by
  have HP := Aside0.mk h
  have HT := Aside0.mk ht
  have HF := Aside0.mk hi
  clear h ht hi
  go_enter Try.func40, Try.ntmps40
  go_wp2_with (fail)
  refine (sign_far HP.out HT.out HF.out s).mono ?_
  rintro e w1 ⟨rfl, hg⟩
  go_wp2
  simp only [bodyPost, true_and]
  exact hg
set_option maxHeartbeats 4000000 in
set_option maxRecDepth 100000 in
theorem take_no (h : PE w g A c ts i op) (ht : ts[i]? = some t) (hi : farB i t = false) (s : ByteArray) (hs : signB t s = false) :
    Calls Try.prog 40 #[.pointer (some ⟨g, 0, none⟩), .string s] w fun e w' => e = Wrong t.f2 t.f3 2 ∧ w.grownBy w' none := by
  have HP := Aside0.mk h
  have HT := Aside0.mk ht
  have HF := Aside0.mk hi
  have HS := Aside0.mk hs
  clear h ht hi hs
  go_enter Try.func40, Try.ntmps40
  go_wp2_with (fail)
  refine (sign_no HP.out HT.out HF.out s HS.out).mono ?_
  rintro e w1 ⟨rfl, hg⟩
  have HG := Aside0.mk hg
  clear hg
  go_wp2_with (fail)
  refine (fail_at (HP.out.grown HG.out) HT.out 2).mono ?_
  rintro e w2 ⟨rfl, hg⟩
  go_wp2
  simp only [bodyPost, true_and]
  exact HG.out.trans hg
set_option maxHeartbeats 4000000 in
set_option maxRecDepth 100000 in
theorem take_yes (h : PE w g A c ts i op) (ht : ts[i]? = some t) (hi : farB i t = false) (s : ByteArray) (hs : signB t s = true) :
    Calls Try.prog 40 #[.pointer (some ⟨g, 0, none⟩), .string s] w fun e w' => e = .returned (.tuple #[]) ∧ w.grownBy w' (some g) ∧ PE w' g A c ts (i + 1) op := by
  have HP := Aside0.mk h
  have HT := Aside0.mk ht
  have HF := Aside0.mk hi
  have HS := Aside0.mk hs
  have hm := h.small ht
  clear h ht hi hs
  go_enter Try.func40, Try.ntmps40
  go_wp2_with (fail)
  refine (sign_yes HP.out HT.out HF.out s HS.out).mono ?_
  rintro e w1 ⟨rfl, hg⟩
  have hp := HP.out.grown hg
  have HG := Aside0.mk hg
  have h1 : w1.cell? ⟨g, 1, none⟩ = some (.int .i64 i) := (blk_cell hp.blk 1).trans rfl
  have z1 := blk_frozen hp.blk 1
  have HP1 := Aside0.mk hp
  clear hg hp
  go_wp2
  go_end0
  exact ⟨rfl, grown_set (grown_some HG.out _) _ _, HP1.out.next⟩
set_option maxHeartbeats 4000000 in
set_option maxRecDepth 100000 in
theorem name_far (h : PE w g A c ts i op) (ht : ts[i]? = some t) (hi : farB i t = true) :
    Calls Try.prog 39 #[.pointer (some ⟨g, 0, none⟩)] w fun e w' => e = Wrong t.f2 t.f3 6 ∧ w.grownBy w' none := by
  have HP := Aside0.mk h
  have HT := Aside0.mk ht
  have HF := Aside0.mk hi
  clear h ht hi
  go_enter Try.func39, Try.ntmps39
  go_wp2_with (fail)
  refine (peek_far HP.out HT.out HF.out).mono ?_
  rintro e w1 ⟨rfl, hg⟩
  go_wp2
  simp only [bodyPost, true_and]
  exact hg
set_option maxHeartbeats 4000000 in
set_option maxRecDepth 100000 in
theorem name_no (h : PE w g A c ts i op) (ht : ts[i]? = some t) (hi : farB i t = false) (hs : t.f0 ≠ 1) :
    Calls Try.prog 39 #[.pointer (some ⟨g, 0, none⟩)] w fun e w' => e = Wrong t.f2 t.f3 2 ∧ w.grownBy w' none := by
  have HP := Aside0.mk h
  have HT := Aside0.mk ht
  have HF := Aside0.mk hi
  have b0 : (t.f0 != 1) = true := bne_iff_ne.mpr hs
  clear h ht hi hs
  go_enter Try.func39, Try.ntmps39
  go_wp2_with (fail)
  refine (peek_ok HP.out HT.out HF.out).mono ?_
  rintro e w1 ⟨rfl, hg⟩
  have HG := Aside0.mk hg
  clear hg
  go_wp2_with (fail)
  refine (fail_at (HP.out.grown (grown_alloc HG.out _)) HT.out 2).mono ?_
  rintro e w2 ⟨rfl, hg⟩
  go_wp2
  simp only [bodyPost, true_and]
  exact (grown_alloc HG.out _).trans hg
set_option maxHeartbeats 4000000 in
set_option maxRecDepth 100000 in
theorem name_yes (h : PE w g A c ts i op) (ht : ts[i]? = some t) (hi : farB i t = false) (hs : t.f0 = 1) :
    Calls Try.prog 39 #[.pointer (some ⟨g, 0, none⟩)] w fun e w' => e = .returned (.string t.f1) ∧ w.grownBy w' (some g) ∧ PE w' g A c ts (i + 1) op := by
  have HP := Aside0.mk h
  have HT := Aside0.mk ht
  have HF := Aside0.mk hi
  have b0 : (t.f0 != 1) = false := by rw [hs]; rfl
  have hm := h.small ht
  clear h ht hi hs
  go_enter Try.func39, Try.ntmps39
  go_wp2_with (fail)
  refine (peek_ok HP.out HT.out HF.out).mono ?_
  rintro e w1 ⟨rfl, hg⟩
  have hp := fun o => HP.out.grown (grown_alloc hg o)
  have HG := Aside0.mk hg
  have h1 : ∀ o, (w1.alloc o).cell? ⟨g, 1, none⟩ = some (.int .i64 i) := fun o => (blk_cell (hp o).blk 1).trans rfl
  have z1 := fun o => blk_frozen (hp o).blk 1
  have HP1 := Aside0.mk hp
  clear hg hp
  have HL := Aside0.mk (HP.out.grown HG.out).lt
  have hne : g ≠ w1.heap.size := Nat.ne_of_lt HL.out
  go_wp2
  go_ret
  exact ⟨rfl, grown_set (grown_some (grown_alloc HG.out _) _) _ _, (HP1.out _).next⟩
end
end Go.Proofs.Ytdbkooliafkcgaa.Sw

set_option linter.unusedVariables false
namespace Go.Proofs.Ytdbkooliafkcgaa.Sw
open Go.RowKit Go.Proofs.YtdbkooliafkcgaaW.PrintWords Go.Proofs.Ytdbkooliafkcgaa Go.Proofs.Ytdbkooliafkcgaa.P

/-- A part read, and the place behind it; or where the text is wrong, and how. -/
inductive PR (α : Type) where
  | ok (x : α) (i : Nat)
  | bad (l c e : Int)
def PR.map {α β : Type} (f : α → β) : PR α → PR β
  | .ok x i => .ok (f x) i
  | .bad l c e => .bad l c e
/-- First r, then k. -/
def andThen {α β : Type} (r : Option (PR α)) (k : α → Nat → Option (PR β)) : Option (PR β) :=
  match r with
  | none => none
  | some (.bad l c e) => some (.bad l c e)
  | some (.ok x i) => k x i
def peekP {β : Type} (ts : List S94) (i : Nat) (k : S94 → Option (PR β)) : Option (PR β) :=
  match ts[i]? with
  | none => none
  | some t => if farB i t then some (.bad t.f2 t.f3 6) else k t
def takeP (ts : List S94) (i : Nat) (s : ByteArray) : Option (PR Unit) :=
  peekP ts i fun t => if signB t s then some (.ok () (i + 1)) else some (.bad t.f2 t.f3 2)
def nameP (ts : List S94) (i : Nat) : Option (PR ByteArray) :=
  peekP ts i fun t => if t.f0 = 1 then some (.ok t.f1 (i + 1)) else some (.bad t.f2 t.f3 2)
def aroundP (Alt : Nat → Nat → Option (PR S48)) (ts : List S94) (op i : Nat) (s : ByteArray) : Option (PR S48) :=
  match ts[i]? with
  | none => none
  | some t => if op = 16 then some (.bad t.f2 t.f3 11) else
    andThen (Alt (op + 1) (i + 1)) fun n j => andThen (takeP ts j s) fun _ k => some (.ok n k)
def wrapN (k : Int) (n : S48) : S48 := ⟨k, ⟨#[]⟩, [n]⟩
def atomP (Alt : Nat → Nat → Option (PR S48)) (ts : List S94) (op i : Nat) : Option (PR (Option S48)) :=
  peekP ts i fun t =>
    if t.f0 = 1 then some (.ok (some ⟨1, t.f1, []⟩) (i + 1))
    else if t.f0 = 2 then some (.ok (some ⟨2, t.f1, []⟩) (i + 1))
    else if signB t ⟨#[40]⟩ then (aroundP Alt ts op i ⟨#[41]⟩).map (PR.map some)
    else if signB t ⟨#[91]⟩ then (aroundP Alt ts op i ⟨#[93]⟩).map (PR.map fun n => some (wrapN 5 n))
    else if signB t ⟨#[123]⟩ then (aroundP Alt ts op i ⟨#[125]⟩).map (PR.map fun n => some (wrapN 6 n))
    else some (.ok none i)
/-- The sign behind an atom. -/
def suffP (ts : List S94) (i : Nat) (n : S48) : Option (PR S48) :=
  peekP ts i fun t =>
    if signB t ⟨#[63]⟩ then some (.ok (wrapN 5 n) (i + 1))
    else if signB t ⟨#[42]⟩ then some (.ok (wrapN 6 n) (i + 1))
    else if signB t ⟨#[43]⟩ then some (.ok (wrapN 7 n) (i + 1))
    else some (.ok n i)
def rowL (Alt : Nat → Nat → Option (PR S48)) (ts : List S94) (op : Nat) : Nat → Nat → List S48 → Option (PR (List S48))
  | 0, _, _ => none
  | n + 1, i, acc => andThen (atomP Alt ts op i) fun x j => match x with
    | none => some (.ok acc j)
    | some x => andThen (suffP ts j x) fun y k => rowL Alt ts op n k (acc ++ [y])
/-- One part alone, or a node of that kind around all. -/
def oneOr (k : Int) : List S48 → S48
  | [x] => x
  | l => ⟨k, ⟨#[]⟩, l⟩
def rowP (Alt : Nat → Nat → Option (PR S48)) (ts : List S94) (n op i : Nat) : Option (PR S48) :=
  (rowL Alt ts op n i []).map (PR.map (oneOr 3))
def altL (Alt : Nat → Nat → Option (PR S48)) (ts : List S94) (m op : Nat) : Nat → Nat → List S48 → Option (PR (List S48))
  | 0, _, _ => none
  | n + 1, i, acc => peekP ts i fun t =>
    if signB t ⟨#[124]⟩ then andThen (rowP Alt ts m op (i + 1)) fun x j => altL Alt ts m op n j (acc ++ [x]) else some (.ok acc i)
/-- An alternation; n: rounds. -/
def altP (ts : List S94) : Nat → Nat → Nat → Option (PR S48)
  | 0, _, _ => none
  | n + 1, op, i => (andThen (rowP (altP ts n) ts (n + 1) op i) fun x j => altL (altP ts n) ts (n + 1) op (n + 1) j [x]).map (PR.map (oneOr 4))
def rulesL (ts : List S94) (m : Nat) : Nat → Bool → Nat → List S50 → Option (PR (List S50))
  | 0, _, _, _ => none
  | n + 1, first, i, acc => peekP ts i fun t =>
    if !first && t.f0 == 4 then some (.ok acc i)
    else if t.f0 = 1 ∧ acc.length = 64 then some (.bad t.f2 t.f3 6)
    else andThen (nameP ts i) fun name j => andThen (takeP ts j ⟨#[58]⟩) fun _ k => andThen (altP ts m 0 k) fun b l => andThen (takeP ts l ⟨#[59]⟩) fun _ o =>
      rulesL ts m n false o (acc ++ [⟨name, b⟩])
/-- The name of a start, if there is one. -/
def startP (ts : List S94) : Option (PR ByteArray) :=
  peekP ts 0 fun t => if signB t ⟨#[37]⟩ then andThen (nameP ts 1) fun s j => andThen (takeP ts j ⟨#[59]⟩) fun _ k => some (.ok s k) else some (.ok ⟨#[]⟩ 0)
/-- The start that is named, or the first rule. -/
def startOf (s : ByteArray) (l : List S50) : ByteArray := if s.toList.isEmpty then (rd_T50 l 0).f0 else s
def grammarP (ts : List S94) (n : Nat) : Option (PR S25) :=
  andThen (startP ts) fun s i => (rulesL ts n n true i []).map (PR.map fun l => ⟨startOf s l, l⟩)
end Go.Proofs.Ytdbkooliafkcgaa.Sw

set_option linter.unusedVariables false
set_option linter.unusedSimpArgs false
namespace Go.Proofs.Ytdbkooliafkcgaa.Sw
open Go.RowKit Go.Proofs.YtdbkooliafkcgaaW.PrintWords Go.Proofs.YtdbkooliafkcgaaW.PrintLast Go.Proofs.YtdbkooliafkcgaaW.PrintMore Go.Proofs.Ytdbkooliafkcgaa Go.Proofs.Ytdbkooliafkcgaa.P Go.Proofs.Ytdbkooliafkcgaa.Lw

section
variable {g : Nat} {A : Option Addr} {c : Nat} {ts : List S94} {i op : Nat} {w w' : World} {t : S94}
theorem peekP_some {β : Type} {k : S94 → Option (PR β)} {r : PR β} (h : peekP ts i k = some r) :
    ∃ t, ts[i]? = some t ∧ ((farB i t = true ∧ r = .bad t.f2 t.f3 6) ∨ (farB i t = false ∧ k t = some r)) := by
  unfold peekP at h
  split at h
  · cases h
  · rename_i t ht
    refine ⟨t, ht, ?_⟩
    split at h
    · rename_i hf
      exact .inl ⟨hf, (Option.some.inj h).symm⟩
    · rename_i hf
      exact .inr ⟨by simpa using hf, h⟩
theorem andThen_some {α β : Type} {x : Option (PR α)} {k : α → Nat → Option (PR β)} {r : PR β} (h : andThen x k = some r) :
    (∃ l c e, x = some (.bad l c e) ∧ r = .bad l c e) ∨ ∃ a j, x = some (.ok a j) ∧ k a j = some r := by
  unfold andThen at h
  split at h
  · cases h
  · exact .inl ⟨_, _, _, rfl, (Option.some.inj h).symm⟩
  · exact .inr ⟨_, _, rfl, h⟩
/-- What a step of the parser without a value leaves. -/
def UnitPost (w : World) (g : Nat) (A : Option Addr) (c : Nat) (ts : List S94) (op : Nat) (r : PR Unit) (e : Ending) (w' : World) : Prop :=
  w.grownBy w' (some g) ∧ match r with
  | .bad l k x => e = Wrong l k x
  | .ok _ j => e = .returned (.tuple #[]) ∧ PE w' g A c ts j op
theorem take_calls (h : PE w g A c ts i op) {s : ByteArray} {r : PR Unit} (hr : takeP ts i s = some r) :
    Calls Try.prog 40 #[.pointer (some ⟨g, 0, none⟩), .string s] w (UnitPost w g A c ts op r) := by
  obtain ⟨t, ht, ⟨hf, rfl⟩ | ⟨hf, hk⟩⟩ := peekP_some hr
  · exact (take_far h ht hf s).mono fun _ _ hh => ⟨grown_some hh.2 _, hh.1⟩
  · split at hk
    · rename_i hs
      obtain rfl := Option.some.inj hk
      exact (take_yes h ht hf s hs).mono fun _ _ hh => ⟨hh.2.1, hh.1, hh.2.2⟩
    · rename_i hs
      obtain rfl := Option.some.inj hk
      exact (take_no h ht hf s (by simpa using hs)).mono fun _ _ hh => ⟨grown_some hh.2 _, hh.1⟩
/-- What name leaves. -/
def NamePost (w : World) (g : Nat) (A : Option Addr) (c : Nat) (ts : List S94) (op : Nat) (r : PR ByteArray) (e : Ending) (w' : World) : Prop :=
  w.grownBy w' (some g) ∧ match r with
  | .bad l k x => e = Wrong l k x
  | .ok s j => e = .returned (.string s) ∧ PE w' g A c ts j op
theorem name_calls (h : PE w g A c ts i op) {r : PR ByteArray} (hr : nameP ts i = some r) :
    Calls Try.prog 39 #[.pointer (some ⟨g, 0, none⟩)] w (NamePost w g A c ts op r) := by
  obtain ⟨t, ht, ⟨hf, rfl⟩ | ⟨hf, hk⟩⟩ := peekP_some hr
  · exact (name_far h ht hf).mono fun _ _ hh => ⟨grown_some hh.2 _, hh.1⟩
  · split at hk
    · rename_i hs
      obtain rfl := Option.some.inj hk
      exact (name_yes h ht hf hs).mono fun _ _ hh => ⟨hh.2.1, hh.1, hh.2.2⟩
    · rename_i hs
      obtain rfl := Option.some.inj hk
      exact (name_no h ht hf hs).mono fun _ _ hh => ⟨grown_some hh.2 _, hh.1⟩
/-- What a part of the parser that tells a node leaves. -/
def NodePost (w : World) (g : Nat) (A : Option Addr) (c : Nat) (ts : List S94) (op : Nat) (r : PR S48) (e : Ending) (w' : World) : Prop :=
  w.grownBy w' (some g) ∧ match r with
  | .bad l k x => e = Wrong l k x
  | .ok n j => PE w' g A c ts j op ∧ ∃ v, e = .returned (.agg #[.int .i64 n.f0, .string n.f1, v]) ∧ k48.R 48 w' w.heap.size (fun _ => True) v n.f2
theorem PE.up (h : PE w g A c ts i op) (x : Nat) : PE (w.setCell ⟨g, 2, none⟩ (.int .i64 x)) g A c ts i x :=
  h.step (grown_set (grown_refl _ _) _ _) (pat_open h.blk _)
theorem PE.open1 (h : PE w g A c ts i op) : PE (w.setCell ⟨g, 2, none⟩ (.int .i64 ((op : Int) + 1))) g A c ts i (op + 1) := h.up (op + 1)
theorem cellAt {b : Nat} {t : TypeId} {cs : Array Value} (h : w.heap[b]? = some (.cells cs t (0, 0))) (i : Nat) {v : Value} (hv : cs[i]? = some v) : w.cell? ⟨b, i, none⟩ = some v := (blk_cell h i).trans hv
theorem infoNode : (Try.prog.info? 48).map (·.size) = some 3 := by kernel_rfl
theorem node_store {q T : Nat} {x0 x1 x2 : Value} (h : w.heap[q]? = some (.cells #[x0, x1, x2] T (0, 0))) (y0 y1 y2 : Value) :
    (((w.setCell ⟨q, 0, none⟩ y0).setCell ⟨q, 1, none⟩ y1).setCell ⟨q, 2, none⟩ y2).heap[q]? = some (.cells #[y0, y1, y2] T (0, 0)) := by
  have := blk_set (blk_set (blk_set h 0 y0) 1 y1) 2 y2
  simpa using this
theorem grown_set3 {row : Option Nat} (h : w.grownBy w' row) {q : Nat} (hq : w.heap.size ≤ q) (y0 y1 y2 : Value) :
    w.grownBy (((w'.setCell ⟨q, 0, none⟩ y0).setCell ⟨q, 1, none⟩ y1).setCell ⟨q, 2, none⟩ y2) row :=
  grown_setNew (grown_setNew (grown_setNew h (p := ⟨q, 0, none⟩) hq y0) (p := ⟨q, 1, none⟩) hq y1) (p := ⟨q, 2, none⟩) hq y2
theorem blk_far3 {b q : Nat} {o : Obj} (h : w.heap[b]? = some o) (hne : b ≠ q) (y0 y1 y2 : Value) :
    (((w.setCell ⟨q, 0, none⟩ y0).setCell ⟨q, 1, none⟩ y1).setCell ⟨q, 2, none⟩ y2).heap[b]? = some o :=
  (Below.heap_setCell _ ⟨q, 2, none⟩ y2 b hne).trans ((Below.heap_setCell _ ⟨q, 1, none⟩ y1 b hne).trans ((Below.heap_setCell _ ⟨q, 0, none⟩ y0 b hne).trans h))
theorem R_far3 {α : Type} {d : Kd α} {e base : Nat} {ok : Nat → Prop} {v : Value} {xs : List α} (h : d.R e w base ok v xs) {q : Nat} (hok : ∀ k, ok k → k ≠ q) (y0 y1 y2 : Value) :
    d.R e (((w.setCell ⟨q, 0, none⟩ y0).setCell ⟨q, 1, none⟩ y1).setCell ⟨q, 2, none⟩ y2) base ok v xs :=
  Kd.R_far (p := ⟨q, 2, none⟩) (Kd.R_far (p := ⟨q, 1, none⟩) (Kd.R_far (p := ⟨q, 0, none⟩) h hok y0) hok y1) hok y2
/-- A block that is not the parser's stays. -/
theorem blk_kept {o : Obj} {b : Nat} (h : w.heap[b]? = some o) (hg : w.grownBy w' (some g)) (hne : b ≠ g) : w'.heap[b]? = some o := blk_grown h hg (fun e => hne (by injection e))
theorem PE.ne_new (h : PE w g A c ts i op) : g ≠ w.heap.size := Nat.ne_of_lt h.lt
/-- The alternation's contract, by rounds. -/
def AltC (g : Nat) (A : Option Addr) (c : Nat) (ts : List S94) (Alt : Nat → Nat → Option (PR S48)) : Prop :=
  ∀ (w : World) (i op : Nat) (r : PR S48), op ≤ 16 → PE w g A c ts i op → Alt op i = some r → Calls Try.prog 43 #[.pointer (some ⟨g, 0, none⟩)] w (NodePost w g A c ts op r)

abbrev zeroNode : Obj := .cells #[.int .i64 0, .string ⟨#[]⟩, .slice none 0 0] 48
set_option maxHeartbeats 4000000 in
set_option maxRecDepth 100000 in
theorem around_deep (h : PE w g A c ts i 16) (ht : ts[i]? = some t) (s : ByteArray) :
    Calls Try.prog 59 #[.pointer (some ⟨g, 0, none⟩), .string s] w fun e w' => e = Wrong t.f2 t.f3 11 ∧ w.grownBy w' none := by
  have HP := Aside0.mk h
  have HT := Aside0.mk ht
  have h2 : ∀ o, (w.alloc o).cell? ⟨g, 2, none⟩ = some (.int .i64 16) := fun o => (blk_cell (blk_alloc h.blk o) 2).trans rfl
  clear h ht
  go_enter Try.func59, Try.ntmps59
  go_wp2_with (fail)
  refine (fail_at (HP.out.grown (grown_alloc (grown_refl _ _) _)) HT.out 11).mono ?_
  rintro e w1 ⟨rfl, hg⟩
  go_wp2
  simp only [bodyPost, true_and]
  exact (grown_alloc (grown_refl _ _) _).trans hg
set_option maxHeartbeats 4000000 in
set_option maxRecDepth 100000 in
theorem around_go {Alt : Nat → Nat → Option (PR S48)} (HA : AltC g A c ts Alt) (h : PE w g A c ts i op) (ht : ts[i]? = some t) (hop : op < 16) (s : ByteArray) {r : PR S48}
    (hr : (andThen (Alt (op + 1) (i + 1)) fun n j => andThen (takeP ts j s) fun _ k => some (.ok n k)) = some r) :
    Calls Try.prog 59 #[.pointer (some ⟨g, 0, none⟩), .string s] w (NodePost w g A c ts op r) := by
  have HP := Aside0.mk h
  have HT := Aside0.mk ht
  have HR := Aside0.mk hr
  have HAA := Aside0.mk HA
  have hm := h.small ht
  have hne := h.ne_new
  have h1 : ∀ o, (w.alloc o).cell? ⟨g, 1, none⟩ = some (.int .i64 i) := fun o => (blk_cell (blk_alloc h.blk o) 1).trans rfl
  have h2 : ∀ o, (w.alloc o).cell? ⟨g, 2, none⟩ = some (.int .i64 op) := fun o => (blk_cell (blk_alloc h.blk o) 2).trans rfl
  have z1 := fun o => blk_frozen (blk_alloc h.blk o) 1
  have z2 := fun o => blk_frozen (blk_alloc h.blk o) 2
  have b0 : ((op : Int) == 16) = false := beq_eq_false_iff_ne.mpr (by omega)
  have hop' := Aside0.mk hop
  have hop2 : (op : Int) < 16 := by omega
  clear h ht hr HA hop
  go_enter Try.func59, Try.ntmps59
  go_wp2_with (fail)
  have hp2 := ((HP.out.grown (grown_alloc (grown_refl _ _) zeroNode)).open1).next
  have hg2 := Aside0.mk (grown_set (grown_set (grown_alloc (grown_refl w (some g)) zeroNode) 2 (.int .i64 ((op : Int) + 1))) 1 (.int .i64 ((i : Int) + 1)))
  have hq2 := blk_far (blk_far (blk_new w zeroNode) (p := ⟨g, 2, none⟩) (Ne.symm hne) (.int .i64 ((op : Int) + 1))) (p := ⟨g, 1, none⟩) (Ne.symm hne) (.int .i64 ((i : Int) + 1))
  rcases andThen_some HR.out with ⟨l, k, x, hr1, rfl⟩ | ⟨n, j, hr1, hk⟩
  · refine (HAA.out _ _ _ _ (by omega) hp2 hr1).mono ?_
    rintro e w3 ⟨hg, he⟩
    replace he : e = Wrong l k x := he
    subst he
    clear hp2 hq2 hr1
    go_wp2
    simp only [bodyPost, true_and]
    exact ⟨hg2.out.trans hg, rfl⟩
  · refine (HAA.out _ _ _ _ (by omega) hp2 hr1).mono ?_
    rintro e w3 ⟨hg, hp3, v, rfl, hv⟩
    obtain ⟨A1, c1, rfl⟩ := Kd.R_slice hv
    have HG3 := Aside0.mk (hg2.out.trans hg)
    have HP3 := Aside0.mk hp3
    have HV := Aside0.mk (Kd.R_lower hv (show w.heap.size + 1 ≤ _ from by simp [World.setCell]))
    have HQ3 := Aside0.mk (blk_kept hq2 hg (Ne.symm hne))
    have HK := Aside0.mk hk
    clear hg hp3 hv hp2 hq2 hr1 hk
    go_wp2_with (fail)
    have HP4 := Aside0.mk (HP3.out.grown (grown_alloc (grown_refl _ _) (.cells #[.int .i64 n.f0, .string n.f1, .slice A1 n.f2.length c1] 48)))
    rcases andThen_some HK.out with ⟨l, k, x, hr2, rfl⟩ | ⟨_, k, hr2, hk⟩
    · refine (take_calls HP4.out hr2).mono ?_
      rintro e w5 ⟨hg, he⟩
      replace he : e = Wrong l k x := he
      subst he
      clear hr2
      go_wp2
      simp only [bodyPost, true_and]
      exact ⟨(grown_alloc HG3.out _).trans hg, rfl⟩
    · refine (take_calls HP4.out hr2).mono ?_
      obtain rfl := Option.some.inj hk
      rintro e w5 ⟨hg, rfl, hp5⟩
      have HG5 := Aside0.mk ((grown_alloc HG3.out _).trans hg)
      have HP5 := Aside0.mk hp5
      have hne3 := HP3.out.ne_new
      have hq5 := blk_kept (blk_alloc HQ3.out (.cells #[.int .i64 n.f0, .string n.f1, .slice A1 n.f2.length c1] 48)) hg (Ne.symm hne)
      have hx5 := blk_kept (blk_new w3 (.cells #[.int .i64 n.f0, .string n.f1, .slice A1 n.f2.length c1] 48)) hg (Ne.symm hne3)
      have HV5 := Aside0.mk (Kd.R_grown (Kd.R_bound (Kd.R_alloc HV.out (.cells #[.int .i64 n.f0, .string n.f1, .slice A1 n.f2.length c1] 48))) hg (fun k hk e => by have e := Option.some.inj e; have := hk.2.1; have := HP.out.lt; omega))
      have g2 : w5.cell? ⟨g, 2, none⟩ = some (.int .i64 ((op : Int) + 1)) := (blk_cell hp5.blk 2).trans (by simp)
      have y2 := blk_frozen hp5.blk 2
      have x0 := cellAt hx5 0 rfl
      have x1 := cellAt hx5 1 rfl
      have x2 := cellAt hx5 2 rfl
      have q0 := cellAt hq5 0 rfl
      have q1 := cellAt hq5 1 rfl
      have q2 := cellAt hq5 2 rfl
      have y0 := blk_frozen hq5 0
      have y1 := blk_frozen hq5 1
      have y3 := blk_frozen hq5 2
      have HQ5 := Aside0.mk hq5
      clear hg hp5 hq5 hx5 hr2 hk
      go_wp2
      have HGF := grown_set3 (grown_set HG5.out 2 (.int .i64 (op : Int))) (Nat.le_refl w.heap.size) (.int .i64 n.f0) (.string n.f1) (.slice A1 n.f2.length c1)
      refine bodyPost_ret (results_cell_row (ty := 48) (p := 4) rfl _ _ w.heap.size 48 #[.int .i64 n.f0, .string n.f1, .slice A1 n.f2.length c1] (0, 0) _ rfl ?_ Try.underlying48 rfl infoNode) rfl ⟨HGF, HP.out.step HGF ?_, _, rfl, ?_⟩
      · exact node_store (blk_far HQ5.out (p := ⟨g, 2, none⟩) (Ne.symm hne) _) _ _ _
      · exact blk_far3 (pat_open HP5.out.blk _) hne _ _ _
      · have hlt := HP.out.lt
        exact Kd.R_mono (Kd.R_lower (R_far3 (Kd.R_far (p := ⟨g, 2, none⟩) HV5.out (fun k hk e => by have := hk.2.1; dsimp only at e; omega) _) (fun k hk e => by have := hk.2.1; omega) _ _ _) (Nat.le_succ _)) (fun _ _ => trivial)
end
end Go.Proofs.Ytdbkooliafkcgaa.Sw

set_option linter.unusedVariables false
set_option linter.unusedSimpArgs false
namespace Go.Proofs.Ytdbkooliafkcgaa.Sw
open Go.RowKit Go.Proofs.YtdbkooliafkcgaaW.PrintWords Go.Proofs.YtdbkooliafkcgaaW.PrintLast Go.Proofs.YtdbkooliafkcgaaW.PrintMore Go.Proofs.Ytdbkooliafkcgaa Go.Proofs.Ytdbkooliafkcgaa.P Go.Proofs.Ytdbkooliafkcgaa.Lw

section
variable {g : Nat} {A : Option Addr} {c : Nat} {ts : List S94} {i op : Nat} {w w' : World} {t : S94}
theorem around_calls {Alt : Nat → Nat → Option (PR S48)} (HA : AltC g A c ts Alt) (h : PE w g A c ts i op) (hop : op ≤ 16) {s : ByteArray} {r : PR S48}
    (hr : aroundP Alt ts op i s = some r) :
    Calls Try.prog 59 #[.pointer (some ⟨g, 0, none⟩), .string s] w (NodePost w g A c ts op r) := by
  unfold aroundP at hr
  split at hr
  · cases hr
  · rename_i t ht
    split at hr
    · rename_i hop
      subst hop
      obtain rfl := Option.some.inj hr
      exact (around_deep h ht s).mono fun _ _ hh => ⟨grown_some hh.2 _, hh.1⟩
    · exact around_go HA h ht (by omega) s hr
theorem k48_sz : k48.sz = 3 := rfl
/-- A row of one node, just made. -/
theorem R_one {base : Nat} {n : S48} {v : Value} (hv : k48.R 48 w base (fun _ => True) v n.f2) (hb : base ≤ w.heap.size) :
    k48.R 48 (w.alloc (.cells #[.int .i64 n.f0, .string n.f1, v] 48)) base (fun _ => True) (.slice (some ⟨w.heap.size, 0, none⟩) 1 1) [n] := by
  refine ⟨fun _ _ => trivial, [.int .i64 n.f0, .string n.f1, v], ?_, ?_⟩
  · have h2 := World.ownsRow_lit (base := base) (e := 48) (size := 3) w #[.int .i64 n.f0, .string n.f1, v] 1 hb (by decide) (by simp)
    simpa [k48_sz] using h2
  · have h3 : Reps (k48.M (w.alloc (.cells #[.int .i64 n.f0, .string n.f1, v] 48)) base (fun k => True ∧ some k ≠ (Value.slice (some ⟨w.heap.size, 0, none⟩) 1 1).ownBlock)) 3 ([] ++ [n]) ([] ++ [.int .i64 n.f0, .string n.f1, v]) := by
      refine Reps.snoc (Reps.none _ _) ?_ (by simp)
      have hM := k48_mkM w base _ n (Kd.R_bound hv)
      refine k48.M_mono (fun k hk => ⟨trivial, fun he => ?_⟩) (Kd.M_below hM (below_alloc (Below.refl _ _) _))
      have e : k = w.heap.size := by simpa [Value.ownBlock] using he
      have := hk.2.2.1
      omega
    simpa [k48_sz] using h3
/-- What atom leaves. -/
def AtomPost (w : World) (g : Nat) (A : Option Addr) (c : Nat) (ts : List S94) (op : Nat) (r : PR (Option S48)) (e : Ending) (w' : World) : Prop :=
  w.grownBy w' (some g) ∧ match r with
  | .bad l k x => e = Wrong l k x
  | .ok none j => PE w' g A c ts j op ∧ e = .returned (.tuple #[.agg #[.int .i64 0, .string ⟨#[]⟩, .slice none 0 0], .bool false])
  | .ok (some n) j => PE w' g A c ts j op ∧ ∃ v, e = .returned (.tuple #[.agg #[.int .i64 n.f0, .string n.f1, v], .bool true]) ∧ k48.R 48 w' w.heap.size (fun _ => True) v n.f2

set_option maxHeartbeats 4000000 in
set_option maxRecDepth 100000 in
theorem atom_far (h : PE w g A c ts i op) (ht : ts[i]? = some t) (hi : farB i t = true) :
    Calls Try.prog 57 #[.pointer (some ⟨g, 0, none⟩)] w (AtomPost w g A c ts op (.bad t.f2 t.f3 6)) := by
  have HP := Aside0.mk h
  have HT := Aside0.mk ht
  have HF := Aside0.mk hi
  clear h ht hi
  go_enter Try.func57, Try.ntmps57
  go_wp2_with (fail)
  refine (peek_far (HP.out.grown (grown_alloc (grown_refl _ _) _)) HT.out HF.out).mono ?_
  rintro e w1 ⟨rfl, hg⟩
  go_wp2
  simp only [bodyPost, true_and]
  exact ⟨grown_some ((grown_alloc (grown_refl _ _) _).trans hg) _, rfl⟩

set_option maxHeartbeats 4000000 in
set_option maxRecDepth 100000 in
theorem atom_name (h : PE w g A c ts i op) (hop : op ≤ 16) (ht : ts[i]? = some t) (hi : farB i t = false) (hk : t.f0 = 1)
    :
    Calls Try.prog 57 #[.pointer (some ⟨g, 0, none⟩)] w (AtomPost w g A c ts op (.ok (some ⟨1, t.f1, []⟩) (i + 1))) := by
  have HP := Aside0.mk h
  have HT := Aside0.mk ht
  have HF := Aside0.mk hi
  have b1 : (t.f0 == 1) = true := by rw [hk]; rfl

  have hop' := Aside0.mk hop
  have hne := h.ne_new
  have hm := h.small ht
  clear h ht hi hop hk
  go_enter Try.func57, Try.ntmps57
  go_wp2_with (fail)
  refine (peek_ok (HP.out.grown (grown_alloc (grown_refl _ _) zeroNode)) HT.out HF.out).mono ?_
  rintro e w1 ⟨rfl, hg⟩
  have HG1 := Aside0.mk ((grown_alloc (grown_refl w none) zeroNode).trans hg)
  have HP1 := Aside0.mk (HP.out.grown HG1.out)
  have hq1 := blk_grown (blk_new w zeroNode) hg (by simp)
  have HQ1 := Aside0.mk hq1
  have HL1 := Aside0.mk (blk_lt hq1)
  have q0 : ∀ o, (w1.alloc o).cell? ⟨w.heap.size, 0, none⟩ = some (.int .i64 0) := fun o => cellAt (blk_alloc HQ1.out o) 0 rfl
  have q1 : ∀ o, (w1.alloc o).cell? ⟨w.heap.size, 1, none⟩ = some (.string ⟨#[]⟩) := fun o => cellAt (blk_alloc HQ1.out o) 1 rfl
  have q2 : ∀ o, (w1.alloc o).cell? ⟨w.heap.size, 2, none⟩ = some (.slice none 0 0) := fun o => cellAt (blk_alloc HQ1.out o) 2 rfl
  have y0 := fun o => blk_frozen (blk_alloc HQ1.out o) 0
  have y1 := fun o => blk_frozen (blk_alloc HQ1.out o) 1
  have y2 := fun o => blk_frozen (blk_alloc HQ1.out o) 2
  have h1 : ∀ o, (w1.alloc o).cell? ⟨g, 1, none⟩ = some (.int .i64 i) := fun o => cellAt (blk_alloc HP1.out.blk o) 1 rfl
  have z1 := fun o => blk_frozen (blk_alloc HP1.out.blk o) 1
  have hne1 : g ≠ w1.heap.size := HP1.out.ne_new
  clear hq1 hg
  go_wp2
  have HGF := grown_set3 (grown_set (grown_some (grown_alloc HG1.out (.cells #[.int .i64 t.f0, .string t.f1, .int .i64 t.f2, .int .i64 t.f3] 94)) (some g)) 1 (.int .i64 ((i : Int) + 1))) (Nat.le_refl w.heap.size) (.int .i64 1) (.string t.f1) (.slice none 0 0)
  refine bodyPost_ret (results_ct (ty := 48) (p := 2) (u := 3) rfl _ _ w.heap.size 48 #[.int .i64 1, .string t.f1, .slice none 0 0] (0, 0) _ rfl ?_ Try.underlying48 rfl infoNode) rfl ⟨HGF, HP.out.step HGF ?_, _, rfl, ?_⟩
  · exact node_store (blk_far (blk_alloc HQ1.out _) (p := ⟨g, 1, none⟩) (Ne.symm hne) _) _ _ _
  · exact blk_far3 (HP1.out.grown (grown_alloc (grown_refl _ _) _)).next.blk hne _ _ _
  · exact Kd.R_nil _ _ _ _ _
set_option maxHeartbeats 4000000 in
set_option maxRecDepth 100000 in
theorem atom_lit (h : PE w g A c ts i op) (hop : op ≤ 16) (ht : ts[i]? = some t) (hi : farB i t = false) (hk : t.f0 = 2)
    :
    Calls Try.prog 57 #[.pointer (some ⟨g, 0, none⟩)] w (AtomPost w g A c ts op (.ok (some ⟨2, t.f1, []⟩) (i + 1))) := by
  have HP := Aside0.mk h
  have HT := Aside0.mk ht
  have HF := Aside0.mk hi
  have b1 : (t.f0 == 1) = false := by rw [hk]; rfl
  have b2 : (t.f0 == 2) = true := by rw [hk]; rfl

  have hop' := Aside0.mk hop
  have hne := h.ne_new
  have hm := h.small ht
  clear h ht hi hop hk
  go_enter Try.func57, Try.ntmps57
  go_wp2_with (fail)
  refine (peek_ok (HP.out.grown (grown_alloc (grown_refl _ _) zeroNode)) HT.out HF.out).mono ?_
  rintro e w1 ⟨rfl, hg⟩
  have HG1 := Aside0.mk ((grown_alloc (grown_refl w none) zeroNode).trans hg)
  have HP1 := Aside0.mk (HP.out.grown HG1.out)
  have hq1 := blk_grown (blk_new w zeroNode) hg (by simp)
  have HQ1 := Aside0.mk hq1
  have HL1 := Aside0.mk (blk_lt hq1)
  have q0 : ∀ o, (w1.alloc o).cell? ⟨w.heap.size, 0, none⟩ = some (.int .i64 0) := fun o => cellAt (blk_alloc HQ1.out o) 0 rfl
  have q1 : ∀ o, (w1.alloc o).cell? ⟨w.heap.size, 1, none⟩ = some (.string ⟨#[]⟩) := fun o => cellAt (blk_alloc HQ1.out o) 1 rfl
  have q2 : ∀ o, (w1.alloc o).cell? ⟨w.heap.size, 2, none⟩ = some (.slice none 0 0) := fun o => cellAt (blk_alloc HQ1.out o) 2 rfl
  have y0 := fun o => blk_frozen (blk_alloc HQ1.out o) 0
  have y1 := fun o => blk_frozen (blk_alloc HQ1.out o) 1
  have y2 := fun o => blk_frozen (blk_alloc HQ1.out o) 2
  have h1 : ∀ o, (w1.alloc o).cell? ⟨g, 1, none⟩ = some (.int .i64 i) := fun o => cellAt (blk_alloc HP1.out.blk o) 1 rfl
  have z1 := fun o => blk_frozen (blk_alloc HP1.out.blk o) 1
  have hne1 : g ≠ w1.heap.size := HP1.out.ne_new
  clear hq1 hg
  go_wp2
  have HGF := grown_set3 (grown_set (grown_some (grown_alloc HG1.out (.cells #[.int .i64 t.f0, .string t.f1, .int .i64 t.f2, .int .i64 t.f3] 94)) (some g)) 1 (.int .i64 ((i : Int) + 1))) (Nat.le_refl w.heap.size) (.int .i64 2) (.string t.f1) (.slice none 0 0)
  refine bodyPost_ret (results_ct (ty := 48) (p := 2) (u := 3) rfl _ _ w.heap.size 48 #[.int .i64 2, .string t.f1, .slice none 0 0] (0, 0) _ rfl ?_ Try.underlying48 rfl infoNode) rfl ⟨HGF, HP.out.step HGF ?_, _, rfl, ?_⟩
  · exact node_store (blk_far (blk_alloc HQ1.out _) (p := ⟨g, 1, none⟩) (Ne.symm hne) _) _ _ _
  · exact blk_far3 (HP1.out.grown (grown_alloc (grown_refl _ _) _)).next.blk hne _ _ _
  · exact Kd.R_nil _ _ _ _ _
set_option maxHeartbeats 4000000 in
set_option maxRecDepth 100000 in
theorem atom_end (h : PE w g A c ts i op) (hop : op ≤ 16) (ht : ts[i]? = some t) (hi : farB i t = false) (b1 : (t.f0 == 1) = false) (b2 : (t.f0 == 2) = false) (b3 : (t.f0 != 3) = true)
    :
    Calls Try.prog 57 #[.pointer (some ⟨g, 0, none⟩)] w (AtomPost w g A c ts op (.ok none i)) := by
  have HP := Aside0.mk h
  have HT := Aside0.mk ht
  have HF := Aside0.mk hi

  have hop' := Aside0.mk hop
  have hne := h.ne_new
  have hm := h.small ht
  clear h ht hi hop 
  go_enter Try.func57, Try.ntmps57
  go_wp2_with (fail)
  refine (peek_ok (HP.out.grown (grown_alloc (grown_refl _ _) zeroNode)) HT.out HF.out).mono ?_
  rintro e w1 ⟨rfl, hg⟩
  have HG1 := Aside0.mk ((grown_alloc (grown_refl w none) zeroNode).trans hg)
  have HP1 := Aside0.mk (HP.out.grown HG1.out)
  have hq1 := blk_grown (blk_new w zeroNode) hg (by simp)
  have HQ1 := Aside0.mk hq1
  have HL1 := Aside0.mk (blk_lt hq1)
  have q0 : ∀ o, (w1.alloc o).cell? ⟨w.heap.size, 0, none⟩ = some (.int .i64 0) := fun o => cellAt (blk_alloc HQ1.out o) 0 rfl
  have q1 : ∀ o, (w1.alloc o).cell? ⟨w.heap.size, 1, none⟩ = some (.string ⟨#[]⟩) := fun o => cellAt (blk_alloc HQ1.out o) 1 rfl
  have q2 : ∀ o, (w1.alloc o).cell? ⟨w.heap.size, 2, none⟩ = some (.slice none 0 0) := fun o => cellAt (blk_alloc HQ1.out o) 2 rfl
  have y0 := fun o => blk_frozen (blk_alloc HQ1.out o) 0
  have y1 := fun o => blk_frozen (blk_alloc HQ1.out o) 1
  have y2 := fun o => blk_frozen (blk_alloc HQ1.out o) 2
  clear hq1 hg
  go_wp2
  have HGF := grown_set3 (grown_some (grown_alloc HG1.out (.cells #[.int .i64 t.f0, .string t.f1, .int .i64 t.f2, .int .i64 t.f3] 94)) (some g)) (Nat.le_refl w.heap.size) (.int .i64 0) (.string ⟨#[]⟩) (.slice none 0 0)
  refine bodyPost_ret (results_ct (ty := 48) (p := 2) (u := 3) rfl _ _ w.heap.size 48 #[.int .i64 0, .string ⟨#[]⟩, .slice none 0 0] (0, 0) _ rfl ?_ Try.underlying48 rfl infoNode) rfl ⟨HGF, HP.out.step HGF ?_, rfl⟩
  · exact node_store (blk_alloc HQ1.out _) _ _ _
  · exact blk_far3 (HP1.out.grown (grown_alloc (grown_refl _ _) _)).blk hne _ _ _
set_option maxHeartbeats 4000000 in
set_option maxRecDepth 100000 in
theorem atom_other (h : PE w g A c ts i op) (hop : op ≤ 16) (ht : ts[i]? = some t) (hi : farB i t = false) (hk : t.f0 = 3) (s40 : (t.f1.toList == [40]) = false) (s91 : (t.f1.toList == [91]) = false) (s123 : (t.f1.toList == [123]) = false) 
    :
    Calls Try.prog 57 #[.pointer (some ⟨g, 0, none⟩)] w (AtomPost w g A c ts op (.ok none i)) := by
  have HP := Aside0.mk h
  have HT := Aside0.mk ht
  have HF := Aside0.mk hi
  have b1 : (t.f0 == 1) = false := by rw [hk]; rfl
  have b2 : (t.f0 == 2) = false := by rw [hk]; rfl
  have b3 : (t.f0 != 3) = false := by rw [hk]; rfl

  have hop' := Aside0.mk hop
  have hne := h.ne_new
  have hm := h.small ht
  clear h ht hi hop hk
  go_enter Try.func57, Try.ntmps57
  go_wp2_with (fail)
  refine (peek_ok (HP.out.grown (grown_alloc (grown_refl _ _) zeroNode)) HT.out HF.out).mono ?_
  rintro e w1 ⟨rfl, hg⟩
  have HG1 := Aside0.mk ((grown_alloc (grown_refl w none) zeroNode).trans hg)
  have HP1 := Aside0.mk (HP.out.grown HG1.out)
  have hq1 := blk_grown (blk_new w zeroNode) hg (by simp)
  have HQ1 := Aside0.mk hq1
  have HL1 := Aside0.mk (blk_lt hq1)
  have q0 : ∀ o, (w1.alloc o).cell? ⟨w.heap.size, 0, none⟩ = some (.int .i64 0) := fun o => cellAt (blk_alloc HQ1.out o) 0 rfl
  have q1 : ∀ o, (w1.alloc o).cell? ⟨w.heap.size, 1, none⟩ = some (.string ⟨#[]⟩) := fun o => cellAt (blk_alloc HQ1.out o) 1 rfl
  have q2 : ∀ o, (w1.alloc o).cell? ⟨w.heap.size, 2, none⟩ = some (.slice none 0 0) := fun o => cellAt (blk_alloc HQ1.out o) 2 rfl
  have y0 := fun o => blk_frozen (blk_alloc HQ1.out o) 0
  have y1 := fun o => blk_frozen (blk_alloc HQ1.out o) 1
  have y2 := fun o => blk_frozen (blk_alloc HQ1.out o) 2
  clear hq1 hg
  go_wp2
  have HGF := grown_set3 (grown_some (grown_alloc HG1.out (.cells #[.int .i64 t.f0, .string t.f1, .int .i64 t.f2, .int .i64 t.f3] 94)) (some g)) (Nat.le_refl w.heap.size) (.int .i64 0) (.string ⟨#[]⟩) (.slice none 0 0)
  refine bodyPost_ret (results_ct (ty := 48) (p := 2) (u := 3) rfl _ _ w.heap.size 48 #[.int .i64 0, .string ⟨#[]⟩, .slice none 0 0] (0, 0) _ rfl ?_ Try.underlying48 rfl infoNode) rfl ⟨HGF, HP.out.step HGF ?_, rfl⟩
  · exact node_store (blk_alloc HQ1.out _) _ _ _
  · exact blk_far3 (HP1.out.grown (grown_alloc (grown_refl _ _) _)).blk hne _ _ _
set_option maxHeartbeats 4000000 in
set_option maxRecDepth 100000 in
theorem atom_paren {Alt : Nat → Nat → Option (PR S48)} (HA : AltC g A c ts Alt) (h : PE w g A c ts i op) (hop : op ≤ 16) (ht : ts[i]? = some t) (hi : farB i t = false) (hk : t.f0 = 3) (s40 : (t.f1.toList == [40]) = true) 
    {r : PR S48} (hr : aroundP Alt ts op i ⟨#[41]⟩ = some r) :
    Calls Try.prog 57 #[.pointer (some ⟨g, 0, none⟩)] w (AtomPost w g A c ts op (r.map some)) := by
  have HP := Aside0.mk h
  have HT := Aside0.mk ht
  have HF := Aside0.mk hi
  have HR := Aside0.mk hr
  have HAA := Aside0.mk HA
  have b1 : (t.f0 == 1) = false := by rw [hk]; rfl
  have b2 : (t.f0 == 2) = false := by rw [hk]; rfl
  have b3 : (t.f0 != 3) = false := by rw [hk]; rfl

  have hop' := Aside0.mk hop
  have hne := h.ne_new
  have hm := h.small ht
  clear h ht hi hop hk hr HA
  go_enter Try.func57, Try.ntmps57
  go_wp2_with (fail)
  refine (peek_ok (HP.out.grown (grown_alloc (grown_refl _ _) zeroNode)) HT.out HF.out).mono ?_
  rintro e w1 ⟨rfl, hg⟩
  have HG1 := Aside0.mk ((grown_alloc (grown_refl w none) zeroNode).trans hg)
  have HP1 := Aside0.mk (HP.out.grown HG1.out)
  have hq1 := blk_grown (blk_new w zeroNode) hg (by simp)
  have HQ1 := Aside0.mk hq1
  have HL1 := Aside0.mk (blk_lt hq1)
  clear hq1 hg
  go_wp2_with (fail)
  refine (around_calls HAA.out (HP1.out.grown (grown_alloc (grown_refl _ _) (.cells #[.int .i64 t.f0, .string t.f1, .int .i64 t.f2, .int .i64 t.f3] 94))) hop'.out HR.out).mono ?_
  rintro e w3 ⟨hg, he⟩
  have HG3 := Aside0.mk ((grown_alloc (grown_some HG1.out (some g)) (.cells #[.int .i64 t.f0, .string t.f1, .int .i64 t.f2, .int .i64 t.f3] 94)).trans hg)
  have HQ3 := Aside0.mk (blk_kept (blk_alloc HQ1.out (.cells #[.int .i64 t.f0, .string t.f1, .int .i64 t.f2, .int .i64 t.f3] 94)) hg (Ne.symm hne))
  clear hg
  cases r with
  | bad l k x =>
    replace he : e = Wrong l k x := he
    subst he
    go_wp2
    simp only [bodyPost, true_and]
    exact ⟨HG3.out, rfl⟩
  | ok n j =>
    obtain ⟨hp3, v, rfl, hv⟩ := he
    obtain ⟨A1, c1, rfl⟩ := Kd.R_slice hv
    have HP3 := Aside0.mk hp3
    have HV := Aside0.mk (Kd.R_lower hv (show w.heap.size + 1 ≤ _ from by have := HL1.out; simp; omega))
    have hlt := HP.out.lt
    have q0 := cellAt HQ3.out 0 rfl
    have q1 := cellAt HQ3.out 1 rfl
    have q2 := cellAt HQ3.out 2 rfl
    have y0 := blk_frozen HQ3.out 0
    have y1 := blk_frozen HQ3.out 1
    have y2 := blk_frozen HQ3.out 2
    clear hv hp3
    go_wp2
    have HGF := grown_set3 HG3.out (Nat.le_refl w.heap.size) (.int .i64 n.f0) (.string n.f1) (.slice A1 n.f2.length c1)
    refine bodyPost_ret (results_ct (ty := 48) (p := 2) (u := 3) rfl _ _ w.heap.size 48 #[.int .i64 n.f0, .string n.f1, .slice A1 n.f2.length c1] (0, 0) _ rfl ?_ Try.underlying48 rfl infoNode) rfl ⟨HGF, HP.out.step HGF ?_, _, rfl, ?_⟩
    · exact node_store HQ3.out _ _ _
    · exact blk_far3 HP3.out.blk hne _ _ _
    · exact Kd.R_mono (Kd.R_lower (R_far3 (Kd.R_bound HV.out) (fun k hk e => by have := hk.2.1; omega) _ _ _) (Nat.le_succ _)) (fun _ _ => trivial)
set_option maxHeartbeats 4000000 in
set_option maxRecDepth 100000 in
theorem atom_bracket {Alt : Nat → Nat → Option (PR S48)} (HA : AltC g A c ts Alt) (h : PE w g A c ts i op) (hop : op ≤ 16) (ht : ts[i]? = some t) (hi : farB i t = false) (hk : t.f0 = 3) (s40 : (t.f1.toList == [40]) = false) (s91 : (t.f1.toList == [91]) = true) 
    {r : PR S48} (hr : aroundP Alt ts op i ⟨#[93]⟩ = some r) :
    Calls Try.prog 57 #[.pointer (some ⟨g, 0, none⟩)] w (AtomPost w g A c ts op (r.map fun n => some (wrapN 5 n))) := by
  have HP := Aside0.mk h
  have HT := Aside0.mk ht
  have HF := Aside0.mk hi
  have HR := Aside0.mk hr
  have HAA := Aside0.mk HA
  have b1 : (t.f0 == 1) = false := by rw [hk]; rfl
  have b2 : (t.f0 == 2) = false := by rw [hk]; rfl
  have b3 : (t.f0 != 3) = false := by rw [hk]; rfl

  have hop' := Aside0.mk hop
  have hne := h.ne_new
  have hm := h.small ht
  clear h ht hi hop hk hr HA
  go_enter Try.func57, Try.ntmps57
  go_wp2_with (fail)
  refine (peek_ok (HP.out.grown (grown_alloc (grown_refl _ _) zeroNode)) HT.out HF.out).mono ?_
  rintro e w1 ⟨rfl, hg⟩
  have HG1 := Aside0.mk ((grown_alloc (grown_refl w none) zeroNode).trans hg)
  have HP1 := Aside0.mk (HP.out.grown HG1.out)
  have hq1 := blk_grown (blk_new w zeroNode) hg (by simp)
  have HQ1 := Aside0.mk hq1
  have HL1 := Aside0.mk (blk_lt hq1)
  clear hq1 hg
  go_wp2_with (fail)
  refine (around_calls HAA.out (HP1.out.grown (grown_alloc (grown_refl _ _) (.cells #[.int .i64 t.f0, .string t.f1, .int .i64 t.f2, .int .i64 t.f3] 94))) hop'.out HR.out).mono ?_
  rintro e w3 ⟨hg, he⟩
  have HG3 := Aside0.mk ((grown_alloc (grown_some HG1.out (some g)) (.cells #[.int .i64 t.f0, .string t.f1, .int .i64 t.f2, .int .i64 t.f3] 94)).trans hg)
  have HQ3 := Aside0.mk (blk_kept (blk_alloc HQ1.out (.cells #[.int .i64 t.f0, .string t.f1, .int .i64 t.f2, .int .i64 t.f3] 94)) hg (Ne.symm hne))
  clear hg
  cases r with
  | bad l k x =>
    replace he : e = Wrong l k x := he
    subst he
    go_wp2
    simp only [bodyPost, true_and]
    exact ⟨HG3.out, rfl⟩
  | ok n j =>
    obtain ⟨hp3, v, rfl, hv⟩ := he
    obtain ⟨A1, c1, rfl⟩ := Kd.R_slice hv
    have HP3 := Aside0.mk hp3
    have HV := Aside0.mk (Kd.R_lower hv (show w.heap.size + 1 ≤ _ from by have := HL1.out; simp; omega))
    have hlt := HP.out.lt
    have q0 : ∀ o, (w3.alloc o).cell? ⟨w.heap.size, 0, none⟩ = some (.int .i64 0) := fun o => cellAt (blk_alloc HQ3.out o) 0 rfl
    have q1 : ∀ o, (w3.alloc o).cell? ⟨w.heap.size, 1, none⟩ = some (.string ⟨#[]⟩) := fun o => cellAt (blk_alloc HQ3.out o) 1 rfl
    have q2 : ∀ o, (w3.alloc o).cell? ⟨w.heap.size, 2, none⟩ = some (.slice none 0 0) := fun o => cellAt (blk_alloc HQ3.out o) 2 rfl
    have y0 := fun o => blk_frozen (blk_alloc HQ3.out o) 0
    have y1 := fun o => blk_frozen (blk_alloc HQ3.out o) 1
    have y2 := fun o => blk_frozen (blk_alloc HQ3.out o) 2
    clear hv hp3
    go_wp2
    have HGF := grown_set3 (grown_alloc HG3.out (.cells #[.int .i64 n.f0, .string n.f1, .slice A1 n.f2.length c1] 48)) (Nat.le_refl w.heap.size) (.int .i64 5) (.string ⟨#[]⟩) (.slice (some ⟨w3.heap.size, 0, none⟩) 1 1)
    refine bodyPost_ret (results_ct (ty := 48) (p := 2) (u := 3) rfl _ _ w.heap.size 48 #[.int .i64 5, .string ⟨#[]⟩, .slice (some ⟨w3.heap.size, 0, none⟩) 1 1] (0, 0) _ rfl ?_ Try.underlying48 rfl infoNode) rfl ⟨HGF, HP.out.step HGF ?_, _, rfl, ?_⟩
    · exact node_store (blk_alloc HQ3.out _) _ _ _
    · exact blk_far3 (HP3.out.grown (grown_alloc (grown_refl _ _) _)).blk hne _ _ _
    · have HV1 := R_one HV.out (by have := blk_lt HQ3.out; omega)
      exact Kd.R_mono (Kd.R_lower (R_far3 (Kd.R_bound HV1) (fun k hk e => by have := hk.2.1; omega) _ _ _) (Nat.le_succ _)) (fun _ _ => trivial)
set_option maxHeartbeats 4000000 in
set_option maxRecDepth 100000 in
theorem atom_brace {Alt : Nat → Nat → Option (PR S48)} (HA : AltC g A c ts Alt) (h : PE w g A c ts i op) (hop : op ≤ 16) (ht : ts[i]? = some t) (hi : farB i t = false) (hk : t.f0 = 3) (s40 : (t.f1.toList == [40]) = false) (s91 : (t.f1.toList == [91]) = false) (s123 : (t.f1.toList == [123]) = true) 
    {r : PR S48} (hr : aroundP Alt ts op i ⟨#[125]⟩ = some r) :
    Calls Try.prog 57 #[.pointer (some ⟨g, 0, none⟩)] w (AtomPost w g A c ts op (r.map fun n => some (wrapN 6 n))) := by
  have HP := Aside0.mk h
  have HT := Aside0.mk ht
  have HF := Aside0.mk hi
  have HR := Aside0.mk hr
  have HAA := Aside0.mk HA
  have b1 : (t.f0 == 1) = false := by rw [hk]; rfl
  have b2 : (t.f0 == 2) = false := by rw [hk]; rfl
  have b3 : (t.f0 != 3) = false := by rw [hk]; rfl

  have hop' := Aside0.mk hop
  have hne := h.ne_new
  have hm := h.small ht
  clear h ht hi hop hk hr HA
  go_enter Try.func57, Try.ntmps57
  go_wp2_with (fail)
  refine (peek_ok (HP.out.grown (grown_alloc (grown_refl _ _) zeroNode)) HT.out HF.out).mono ?_
  rintro e w1 ⟨rfl, hg⟩
  have HG1 := Aside0.mk ((grown_alloc (grown_refl w none) zeroNode).trans hg)
  have HP1 := Aside0.mk (HP.out.grown HG1.out)
  have hq1 := blk_grown (blk_new w zeroNode) hg (by simp)
  have HQ1 := Aside0.mk hq1
  have HL1 := Aside0.mk (blk_lt hq1)
  clear hq1 hg
  go_wp2_with (fail)
  refine (around_calls HAA.out (HP1.out.grown (grown_alloc (grown_refl _ _) (.cells #[.int .i64 t.f0, .string t.f1, .int .i64 t.f2, .int .i64 t.f3] 94))) hop'.out HR.out).mono ?_
  rintro e w3 ⟨hg, he⟩
  have HG3 := Aside0.mk ((grown_alloc (grown_some HG1.out (some g)) (.cells #[.int .i64 t.f0, .string t.f1, .int .i64 t.f2, .int .i64 t.f3] 94)).trans hg)
  have HQ3 := Aside0.mk (blk_kept (blk_alloc HQ1.out (.cells #[.int .i64 t.f0, .string t.f1, .int .i64 t.f2, .int .i64 t.f3] 94)) hg (Ne.symm hne))
  clear hg
  cases r with
  | bad l k x =>
    replace he : e = Wrong l k x := he
    subst he
    go_wp2
    simp only [bodyPost, true_and]
    exact ⟨HG3.out, rfl⟩
  | ok n j =>
    obtain ⟨hp3, v, rfl, hv⟩ := he
    obtain ⟨A1, c1, rfl⟩ := Kd.R_slice hv
    have HP3 := Aside0.mk hp3
    have HV := Aside0.mk (Kd.R_lower hv (show w.heap.size + 1 ≤ _ from by have := HL1.out; simp; omega))
    have hlt := HP.out.lt
    have q0 : ∀ o, (w3.alloc o).cell? ⟨w.heap.size, 0, none⟩ = some (.int .i64 0) := fun o => cellAt (blk_alloc HQ3.out o) 0 rfl
    have q1 : ∀ o, (w3.alloc o).cell? ⟨w.heap.size, 1, none⟩ = some (.string ⟨#[]⟩) := fun o => cellAt (blk_alloc HQ3.out o) 1 rfl
    have q2 : ∀ o, (w3.alloc o).cell? ⟨w.heap.size, 2, none⟩ = some (.slice none 0 0) := fun o => cellAt (blk_alloc HQ3.out o) 2 rfl
    have y0 := fun o => blk_frozen (blk_alloc HQ3.out o) 0
    have y1 := fun o => blk_frozen (blk_alloc HQ3.out o) 1
    have y2 := fun o => blk_frozen (blk_alloc HQ3.out o) 2
    clear hv hp3
    go_wp2
    have HGF := grown_set3 (grown_alloc HG3.out (.cells #[.int .i64 n.f0, .string n.f1, .slice A1 n.f2.length c1] 48)) (Nat.le_refl w.heap.size) (.int .i64 6) (.string ⟨#[]⟩) (.slice (some ⟨w3.heap.size, 0, none⟩) 1 1)
    refine bodyPost_ret (results_ct (ty := 48) (p := 2) (u := 3) rfl _ _ w.heap.size 48 #[.int .i64 6, .string ⟨#[]⟩, .slice (some ⟨w3.heap.size, 0, none⟩) 1 1] (0, 0) _ rfl ?_ Try.underlying48 rfl infoNode) rfl ⟨HGF, HP.out.step HGF ?_, _, rfl, ?_⟩
    · exact node_store (blk_alloc HQ3.out _) _ _ _
    · exact blk_far3 (HP3.out.grown (grown_alloc (grown_refl _ _) _)).blk hne _ _ _
    · have HV1 := R_one HV.out (by have := blk_lt HQ3.out; omega)
      exact Kd.R_mono (Kd.R_lower (R_far3 (Kd.R_bound HV1) (fun k hk e => by have := hk.2.1; omega) _ _ _) (Nat.le_succ _)) (fun _ _ => trivial)
end
end Go.Proofs.Ytdbkooliafkcgaa.Sw

set_option linter.unusedVariables false
set_option linter.unusedSimpArgs false
namespace Go.Proofs.Ytdbkooliafkcgaa.Sw
open Go.RowKit Go.Proofs.YtdbkooliafkcgaaW.PrintWords Go.Proofs.YtdbkooliafkcgaaW.PrintLast Go.Proofs.YtdbkooliafkcgaaW.PrintMore Go.Proofs.Ytdbkooliafkcgaa Go.Proofs.Ytdbkooliafkcgaa.P Go.Proofs.Ytdbkooliafkcgaa.Lw

section
variable {g : Nat} {A : Option Addr} {c : Nat} {ts : List S94} {i op : Nat} {w w' : World} {t : S94}
theorem toList_one (x : UInt8) : (⟨#[x]⟩ : ByteArray).toList = [x] := by simp
theorem signB_lit (t : S94) (x : UInt8) : signB t ⟨#[x]⟩ = ((t.f0 == 3) && (t.f1.toList == [x])) := by unfold signB; rw [toList_one]
theorem map_some {α β : Type} {f : α → β} {x : Option (PR α)} {r : PR β} (h : x.map (PR.map f) = some r) : ∃ q, x = some q ∧ r = q.map f := by
  cases x with
  | none => cases h
  | some q => exact ⟨q, rfl, (Option.some.inj h).symm⟩
theorem atom_calls {Alt : Nat → Nat → Option (PR S48)} (HA : AltC g A c ts Alt) (h : PE w g A c ts i op) (hop : op ≤ 16) {r : PR (Option S48)} (hr : atomP Alt ts op i = some r) :
    Calls Try.prog 57 #[.pointer (some ⟨g, 0, none⟩)] w (AtomPost w g A c ts op r) := by
  obtain ⟨t, ht, ⟨hf, rfl⟩ | ⟨hf, hk⟩⟩ := peekP_some hr
  · exact atom_far h ht hf
  · simp only [signB_lit] at hk
    split at hk
    · rename_i h1
      obtain rfl := Option.some.inj hk
      exact atom_name h hop ht hf h1
    · rename_i h1
      split at hk
      · rename_i h2
        obtain rfl := Option.some.inj hk
        exact atom_lit h hop ht hf h2
      · rename_i h2
        by_cases h3 : t.f0 = 3
        · have e3 : (t.f0 == 3) = true := beq_iff_eq.mpr h3
          simp only [e3, Bool.true_and] at hk
          cases s1 : t.f1.toList == [40]
          · rw [s1] at hk
            cases s2 : t.f1.toList == [91]
            · rw [s2] at hk
              cases s3 : t.f1.toList == [123]
              · rw [s3] at hk
                obtain rfl := Option.some.inj (show some _ = some r from hk)
                exact atom_other h hop ht hf h3 s1 s2 s3
              · rw [s3] at hk
                obtain ⟨q, hq, rfl⟩ := map_some (show Option.map _ _ = some r from hk)
                exact atom_brace HA h hop ht hf h3 s1 s2 s3 hq
            · rw [s2] at hk
              obtain ⟨q, hq, rfl⟩ := map_some (show Option.map _ _ = some r from hk)
              exact atom_bracket HA h hop ht hf h3 s1 s2 hq
          · rw [s1] at hk
            obtain ⟨q, hq, rfl⟩ := map_some (show Option.map _ _ = some r from hk)
            exact atom_paren HA h hop ht hf h3 s1 hq
        · have e3 : (t.f0 == 3) = false := beq_eq_false_iff_ne.mpr h3
          simp only [e3, Bool.false_and] at hk
          obtain rfl := Option.some.inj (show some _ = some r from hk)
          exact atom_end h hop ht hf (beq_eq_false_iff_ne.mpr h1) (beq_eq_false_iff_ne.mpr h2) (bne_iff_ne.mpr h3)
end
end Go.Proofs.Ytdbkooliafkcgaa.Sw

set_option linter.unusedVariables false
set_option linter.unusedSimpArgs false
namespace Go.Proofs.Ytdbkooliafkcgaa.Sw
open Go.RowKit Go.Proofs.YtdbkooliafkcgaaW.PrintWords Go.Proofs.YtdbkooliafkcgaaW.PrintLast Go.Proofs.YtdbkooliafkcgaaW.PrintMore Go.Proofs.Ytdbkooliafkcgaa Go.Proofs.Ytdbkooliafkcgaa.P Go.Proofs.Ytdbkooliafkcgaa.Lw

section
variable {g : Nat} {A : Option Addr} {c : Nat} {ts : List S94} {i op : Nat} {w w' : World} {t : S94}
theorem infoNodes : (Try.prog.info? 48).map (fun i => (i.zero, i.size, i.bytes)) = some (some (.agg #[(.int .i64 0), (.string ⟨#[]⟩), (.slice none 0 0)]), 3, 48) := by kernel_rfl
theorem grown_newer {w W w1 : World} {g : Nat} {row : Option Nat} (h : w.grownBy W (some g)) (hg : W.grownBy w1 row) (hr : ∀ k, row = some k → w.heap.size ≤ k) : w.grownBy w1 (some g) :=
  ⟨hg.os.trans h.os, hg.tape.trans h.tape, hg.output.trans h.output, Nat.le_trans h.size hg.size, fun i hi hne => (hg.block i (Nat.lt_of_lt_of_le hi h.size) (fun e => by have := hr i e.symm; omega)).trans (h.block i hi hne)⟩
/-- An alternation goes forward. -/
def AltM (Alt : Nat → Nat → Option (PR S48)) : Prop := ∀ op i n j, Alt op i = some (.ok n j) → i ≤ j
theorem takeP_ok {j k : Nat} {s : ByteArray} {u : Unit} (h : takeP ts j s = some (.ok u k)) : k = j + 1 := by
  obtain ⟨t, ht, ⟨hf, hh⟩ | ⟨hf, hh⟩⟩ := peekP_some h
  · cases hh
  · split at hh
    · cases hh; rfl
    · cases hh
theorem aroundP_ok {Alt : Nat → Nat → Option (PR S48)} (HM : AltM Alt) {s : ByteArray} {n : S48} {j : Nat} (h : aroundP Alt ts op i s = some (.ok n j)) : i + 1 ≤ j := by
  unfold aroundP at h
  split at h
  · cases h
  · split at h
    · cases h
    · rcases andThen_some h with ⟨_, _, _, _, hh⟩ | ⟨n1, j1, h1, hk⟩
      · cases hh
      · rcases andThen_some hk with ⟨_, _, _, _, hh⟩ | ⟨_, j2, h2, hk⟩
        · cases hh
        · have := HM _ _ _ _ h1
          have := takeP_ok h2
          cases hk
          omega
theorem farB_lt {i : Nat} {t : S94} (h : farB i t = false) (hk : t.f0 ≠ 4) : i < 4096 := by
  unfold farB at h
  simp only [Bool.and_eq_false_iff, decide_eq_false_iff_not, Bool.not_eq_false', beq_iff_eq] at h
  rcases h with h | h
  · omega
  · exact absurd h hk
theorem atomP_ok {Alt : Nat → Nat → Option (PR S48)} (HM : AltM Alt) {x : S48} {j : Nat} (h : atomP Alt ts op i = some (.ok (some x) j)) : i < 4096 ∧ i + 1 ≤ j := by
  obtain ⟨t, ht, ⟨hf, hh⟩ | ⟨hf, hh⟩⟩ := peekP_some h
  · cases hh
  · have lt3 : ∀ {b : Bool} , ((t.f0 == 3) && b) = true → t.f0 = 3 := fun {b} hb => by
      simp only [Bool.and_eq_true, beq_iff_eq] at hb
      exact hb.1
    split at hh
    · rename_i h1
      cases hh
      exact ⟨farB_lt hf (by omega), by omega⟩
    · split at hh
      · rename_i h1
        cases hh
        exact ⟨farB_lt hf (by omega), by omega⟩
      · split at hh
        · rename_i h1
          have := lt3 h1
          obtain ⟨q, hq, hr⟩ := map_some hh
          cases q with
          | bad l k x => cases hr
          | ok n j' => cases hr; exact ⟨farB_lt hf (by omega), aroundP_ok HM hq⟩
        · split at hh
          · rename_i h1
            have := lt3 h1
            obtain ⟨q, hq, hr⟩ := map_some hh
            cases q with
            | bad l k x => cases hr
            | ok n j' => cases hr; exact ⟨farB_lt hf (by omega), aroundP_ok HM hq⟩
          · split at hh
            · rename_i h1
              have := lt3 h1
              obtain ⟨q, hq, hr⟩ := map_some hh
              cases q with
              | bad l k x => cases hr
              | ok n j' => cases hr; exact ⟨farB_lt hf (by omega), aroundP_ok HM hq⟩
            · cases hh
theorem atomP_none {Alt : Nat → Nat → Option (PR S48)} {j : Nat} (h : atomP Alt ts op i = some (.ok none j)) : j = i := by
  obtain ⟨t, ht, ⟨hf, hh⟩ | ⟨hf, hh⟩⟩ := peekP_some h
  · cases hh
  · repeat' split at hh
    all_goals first
      | (cases hh; rfl)
      | (obtain ⟨q, hq, hr⟩ := map_some hh; cases q <;> cases hr)
      | cases hh
theorem suffP_ok {x y : S48} {j k : Nat} (h : suffP ts j x = some (.ok y k)) : j ≤ k := by
  obtain ⟨t, ht, ⟨hf, hh⟩ | ⟨hf, hh⟩⟩ := peekP_some h
  · cases hh
  · repeat' split at hh
    all_goals (cases hh; omega)

theorem R_oneK {base : Nat} {ok ok' : Nat → Prop} {n : S48} {v : Value} (hv : k48.R 48 w base ok v n.f2) (hb : base ≤ w.heap.size) (hok : ∀ k, ok k → k < w.heap.size → ok' k) (hnew : ok' w.heap.size) :
    k48.R 48 (w.alloc (.cells #[.int .i64 n.f0, .string n.f1, v] 48)) base ok' (.slice (some ⟨w.heap.size, 0, none⟩) 1 1) [n] := by
  refine ⟨fun k hk => ?_, [.int .i64 n.f0, .string n.f1, v], ?_, ?_⟩
  · have e : w.heap.size = k := by simpa [Value.ownBlock] using hk
    exact e ▸ hnew
  · have h2 := World.ownsRow_lit (base := base) (e := 48) (size := 3) w #[.int .i64 n.f0, .string n.f1, v] 1 hb (by decide) (by simp)
    simpa [k48_sz] using h2
  · have h3 : Reps (k48.M (w.alloc (.cells #[.int .i64 n.f0, .string n.f1, v] 48)) base (fun k => ok' k ∧ some k ≠ (Value.slice (some ⟨w.heap.size, 0, none⟩) 1 1).ownBlock)) 3 ([] ++ [n]) ([] ++ [.int .i64 n.f0, .string n.f1, v]) := by
      refine Reps.snoc (Reps.none _ _) ?_ (by simp)
      have hM := k48_mkM w base _ n (Kd.R_bound hv)
      refine k48.M_mono (fun k hk => ⟨hok k hk.1 hk.2.2.1, fun he => ?_⟩) (Kd.M_below hM (below_alloc (Below.refl _ _) _))
      have e : k = w.heap.size := by simpa [Value.ownBlock] using he
      have := hk.2.2.1
      omega
    simpa [k48_sz] using h3
theorem ix0 (w : World) : (Instr.index 112 (.agg #[.string ⟨#[63]⟩, .string ⟨#[42]⟩, .string ⟨#[43]⟩]) (.int .i64 0)).run Try.prog w = .ok (.string ⟨#[63]⟩) w := by kernel_rfl
theorem ix1 (w : World) : (Instr.index 112 (.agg #[.string ⟨#[63]⟩, .string ⟨#[42]⟩, .string ⟨#[43]⟩]) (.int .i64 1)).run Try.prog w = .ok (.string ⟨#[42]⟩) w := by kernel_rfl
theorem ix2 (w : World) : (Instr.index 112 (.agg #[.string ⟨#[63]⟩, .string ⟨#[42]⟩, .string ⟨#[43]⟩]) (.int .i64 2)).run Try.prog w = .ok (.string ⟨#[43]⟩) w := by kernel_rfl
/-- The one node of a row. -/
theorem row_one {base : Nat} {ok : Nat → Prop} {v : Value} {x : S48} (h : k48.R 48 w base ok v [x]) : ∃ q cap A1 c1, v = .slice (some ⟨q, 0, none⟩) 1 cap ∧ w.cell? ⟨q, 0, none⟩ = some (.int .i64 x.f0) ∧ w.cell? ⟨q, 1, none⟩ = some (.string x.f1) ∧
    w.cell? ⟨q, 2, none⟩ = some (.slice A1 x.f2.length c1) ∧ k48.R 48 w base ok (.slice A1 x.f2.length c1) x.f2 ∧ base ≤ q ∧ q < w.heap.size := by
  obtain ⟨q, cap, rfl, hb, hl, _⟩ := Kd.R_form h (by simp)
  obtain ⟨cs, hcl, hM, hcc, _⟩ := Kd.R_elem h z48 0 (by omega) (by simp)
  obtain ⟨v2, rfl, hR⟩ := k48_openM hM
  simp only [Int.toNat_zero, List.getD_cons_zero, Nat.zero_mul, Nat.zero_add] at hR hcc
  obtain ⟨A1, c1, rfl⟩ := Kd.R_slice hR
  exact ⟨q, cap, A1, c1, rfl, hcc 0 _ rfl, hcc 1 _ rfl, hcc 2 _ rfl, Kd.R_mono hR (fun _ hk => hk.1), hb, hl⟩
theorem oneOr_many {k : Int} {l : List S48} (h : l.length ≠ 1) : oneOr k l = ⟨k, ⟨#[]⟩, l⟩ := by
  unfold oneOr
  split
  · simp at h
  · rfl
/-- Between two items. -/
def RowR (w : World) (g : Nat) (A : Option Addr) (c : Nat) (ts : List S94) (op : Nat) (Alt : Nat → Nat → Option (PR S48)) (r0 : PR (List S48)) (k : Nat) (v : Value) (wr : World) : Prop :=
  ∃ i acc, PE wr g A c ts i op ∧ w.grownBy wr (some g) ∧ k48.R 48 wr (w.heap.size + 1) (fun _ => True) v acc ∧ rowL Alt ts op k i acc = some r0 ∧ acc.length ≤ i ∧ wr.heap[w.heap.size]? = some zeroNode
/-- Behind an item's sign. -/
def ItemR (w : World) (g : Nat) (A : Option Addr) (c : Nat) (ts : List S94) (op : Nat) (x : S48) (j bx : Nat) (b : Nat) (v : Value) (acc : List S48) (wx : World) : Prop :=
  ∃ y k vy, suffP ts j x = some (.ok y k) ∧ PE wx g A c ts k op ∧ w.grownBy wx (some g) ∧ k48.R 48 wx (w.heap.size + 1) (fun _ => True) v acc ∧ wx.heap[w.heap.size]? = some zeroNode ∧
    wx.heap[bx]? = some (.cells #[.int .i64 y.f0, .string y.f1, vy] 48 (0, 0)) ∧ k48.R 48 wx b (fun k => k ≠ bx) vy y.f2

set_option maxHeartbeats 8000000 in
set_option maxRecDepth 100000 in
theorem row_calls {Alt : Nat → Nat → Option (PR S48)} (HA : AltC g A c ts Alt) (HM : AltM Alt) (h : PE w g A c ts i op) (hop : op ≤ 16) {n : Nat} {r0 : PR (List S48)} (hr : rowL Alt ts op n i [] = some r0) :
    Calls Try.prog 52 #[.pointer (some ⟨g, 0, none⟩)] w (NodePost w g A c ts op (r0.map (oneOr 3))) := by
  have HP := Aside0.mk h
  have HR := Aside0.mk hr
  have HAA := Aside0.mk HA
  have HMM := Aside0.mk HM
  have hop' := Aside0.mk hop
  have hne := h.ne_new
  clear h hr HA HM hop
  go_enter Try.func52, Try.ntmps52
  go_wp2_with (fail)
  go_loopg [3] (n) (fun k s3 wr => RowR w g A c ts op Alt r0 k s3 wr)
  case atStart =>
    exact ⟨i, [], HP.out.grown (grown_alloc (grown_refl _ _) zeroNode), grown_alloc (grown_refl _ _) zeroNode, Kd.R_nil _ _ _ _ _, HR.out, Nat.zero_le _, blk_new w zeroNode⟩
  case round =>
    obtain ⟨i1, acc, hp, hg, hv, hrow, hal, hz⟩ := hrel
    cases gk with
    | zero => exact absurd hrow (by simp [rowL])
    | succ m =>
      unfold rowL at hrow
      have KP := Aside0.mk hp
      have KG := Aside0.mk hg
      have KV := Aside0.mk hv
      have KZ := Aside0.mk hz
      have hgl := KP.out.lt
      clear hp hg hz
      rcases andThen_some hrow with ⟨l, k, x, ha, rfl⟩ | ⟨ox, j, ha, hk⟩
      · have HA1 := Aside0.mk ha
        clear ha hrow hv
        go_wp2_with (fail)
        refine (atom_calls HAA.out KP.out hop'.out HA1.out).mono ?_
        rintro e w3 ⟨hg, he⟩
        replace he : e = Wrong l k x := he
        subst he
        go_wp2
        simp only [bodyPost, true_and]
        exact ⟨KG.out.trans hg, rfl⟩
      · cases ox with
        | none =>
          obtain rfl := Option.some.inj (show some _ = some r0 from hk)
          have HA1 := Aside0.mk ha
          obtain ⟨A1, c1, rfl⟩ := Kd.R_slice hv
          clear ha hrow hk hv
          go_wp2_with (fail)
          refine (atom_calls HAA.out KP.out hop'.out HA1.out).mono ?_
          rintro e w3 ⟨hg, hp3, rfl⟩
          have HG3 := Aside0.mk (KG.out.trans hg)
          have HV3 := Aside0.mk (Kd.R_grown (Kd.R_bound KV.out) hg (fun k hk e => by have e := Option.some.inj e; have := hk.2.1; have := HP.out.lt; omega))
          have hz3 := blk_kept KZ.out hg (Ne.symm hne)
          have HZ3 := Aside0.mk hz3
          have HP3 := Aside0.mk hp3
          have q0 : ∀ o, (w3.alloc o).cell? ⟨w.heap.size, 0, none⟩ = some (.int .i64 0) := fun o => cellAt (blk_alloc HZ3.out o) 0 rfl
          have q1 : ∀ o, (w3.alloc o).cell? ⟨w.heap.size, 1, none⟩ = some (.string ⟨#[]⟩) := fun o => cellAt (blk_alloc HZ3.out o) 1 rfl
          have q2 : ∀ o, (w3.alloc o).cell? ⟨w.heap.size, 2, none⟩ = some (.slice none 0 0) := fun o => cellAt (blk_alloc HZ3.out o) 2 rfl
          have y0 := fun o => blk_frozen (blk_alloc HZ3.out o) 0
          have y1 := fun o => blk_frozen (blk_alloc HZ3.out o) 1
          have y2 := fun o => blk_frozen (blk_alloc HZ3.out o) 2
          clear hg hz3 hp3
          by_cases hacc : acc.length = 1
          · obtain ⟨x, rfl⟩ := List.length_eq_one_iff.1 hacc
            obtain ⟨q, cap, A2, c2, hv, hx0, hx1, hx2, hR, hb, hl⟩ := row_one HV3.out
            cases hv
            have HRX := Aside0.mk hR
            clear hR hacc hal
            go_wp2
            have HGF := grown_set3 (grown_alloc HG3.out zeroNode) (Nat.le_refl w.heap.size) (.int .i64 x.f0) (.string x.f1) (.slice A2 x.f2.length c2)
            refine bodyPost_ret (results_cell_row (ty := 48) (p := 2) rfl _ _ w.heap.size 48 #[.int .i64 x.f0, .string x.f1, .slice A2 x.f2.length c2] (0, 0) _ rfl ?_ Try.underlying48 rfl infoNode) rfl ⟨HGF, HP.out.step HGF ?_, _, rfl, ?_⟩
            · exact node_store (blk_alloc HZ3.out zeroNode) _ _ _
            · exact blk_far3 (HP3.out.grown (grown_alloc (grown_refl _ _) zeroNode)).blk hne _ _ _
            · exact Kd.R_mono (Kd.R_lower (R_far3 (Kd.R_alloc HRX.out zeroNode) (fun k hk e => by have := hk.2.1; omega) _ _ _) (Nat.le_succ _)) (fun _ _ => trivial)
          · have b1 : ((acc.length : Int) == 1) = false := beq_eq_false_iff_ne.mpr (by omega)
            have HN := Aside0.mk hacc
            clear hacc
            go_wp2
            have HGF := grown_set3 (grown_alloc HG3.out zeroNode) (Nat.le_refl w.heap.size) (.int .i64 3) (.string ⟨#[]⟩) (.slice A1 acc.length c1)
            simp only [PR.map]
            rw [oneOr_many HN.out]
            refine bodyPost_ret (results_cell_row (ty := 48) (p := 2) rfl _ _ w.heap.size 48 #[.int .i64 3, .string ⟨#[]⟩, .slice A1 acc.length c1] (0, 0) _ rfl ?_ Try.underlying48 rfl infoNode) rfl ⟨HGF, HP.out.step HGF ?_, _, rfl, ?_⟩
            · exact node_store (blk_alloc HZ3.out zeroNode) _ _ _
            · exact blk_far3 (HP3.out.grown (grown_alloc (grown_refl _ _) zeroNode)).blk hne _ _ _
            · exact Kd.R_mono (Kd.R_lower (R_far3 (Kd.R_alloc HV3.out zeroNode) (fun k hk e => by have := hk.2.1; omega) _ _ _) (Nat.le_succ _)) (fun _ _ => trivial)
        | some x =>
          have HA1 := Aside0.mk ha
          obtain ⟨hlo, hjj⟩ := atomP_ok HMM.out ha
          have HLO := Aside0.mk (And.intro hlo hjj)
          have HK := Aside0.mk hk
          have HROW := Aside0.mk hrow
          have HAL := Aside0.mk hal
          obtain ⟨A1, c1, rfl⟩ := Kd.R_slice hv
          clear ha hrow hk hv hlo hjj hal
          go_wp2_with (fail)
          refine (atom_calls HAA.out KP.out hop'.out HA1.out).mono ?_
          rintro e w3 ⟨hg, hp3, vx, rfl, hvx⟩
          obtain ⟨A2, c2, rfl⟩ := Kd.R_slice hvx
          have HG3 := Aside0.mk (KG.out.trans hg)
          have HV3 := Aside0.mk (Kd.R_grown (Kd.R_bound KV.out) hg (fun k hk e => by have e := Option.some.inj e; have := hk.2.1; have := HP.out.lt; omega))
          have HVX := Aside0.mk hvx
          have HWR := Aside0.mk hg.size
          have HZ3 := Aside0.mk (blk_kept KZ.out hg (Ne.symm hne))
          have HP3 := Aside0.mk hp3
          clear hg hp3 hvx
          rcases andThen_some HK.out with ⟨l, k, e, hs, rfl⟩ | ⟨y, k, hs, hk⟩
          · obtain ⟨t, ht, ⟨hf, hh⟩ | ⟨hf, hh⟩⟩ := peekP_some hs
            · cases hh
              have HT := Aside0.mk ht
              have HF := Aside0.mk hf
              clear ht hf hs
              have i0 := ix0
              go_wp2_with (fail)
              refine wp_loop_rounds 1 ?_
              rw [rounds_succ]
              go_wp2_with (fail)
              refine (sign_far (HP3.out.grown (grown_alloc (grown_refl _ _) _)) HT.out HF.out _).mono ?_
              rintro e w4 ⟨rfl, hg⟩
              go_wp2
              simp only [bodyPost, true_and]
              exact ⟨(grown_alloc HG3.out _).trans (grown_some hg _), rfl⟩
            · exfalso
              repeat' split at hh
              all_goals cases hh
          · go_upto_block 2 with (fail)
            have i0 := ix0
            have i1 := ix1
            have i2 := ix2
            go_cut [] (fun wx => ItemR w g A c ts op x j w3.heap.size wr.heap.size (.slice A1 acc.length c1) acc wx)
            case first =>
              have HS := Aside0.mk hs
              clear hs hk
              obtain ⟨t, ht, ⟨hf, hh⟩ | ⟨hf, hh⟩⟩ := peekP_some HS.out
              · cases hh
              have HT := Aside0.mk ht
              have HF := Aside0.mk hf
              have hm := HP3.out.small ht
              clear ht hf
              have G0 := Aside0.mk (grown_alloc (grown_refl w3 none) (.cells #[.int .i64 x.f0, .string x.f1, .slice A2 x.f2.length c2] 48))
              have B0 := Aside0.mk (blk_new w3 (.cells #[.int .i64 x.f0, .string x.f1, .slice A2 x.f2.length c2] 48))
              cases s0 : signB t ⟨#[63]⟩
              · cases s1 : signB t ⟨#[42]⟩
                · cases s2 : signB t ⟨#[43]⟩
                  · rw [if_neg (by rw [s0]; simp), if_neg (by rw [s1]; simp), if_neg (by rw [s2]; simp)] at hh
                    have T0 := Aside0.mk s0
                    have T1 := Aside0.mk s1
                    have T2 := Aside0.mk s2
                    clear s0 s1 s2
                    cases hh
                    go_wp2_with (fail)
                    refine wp_loop_rounds 4 ?_
                    rw [rounds_succ]
                    go_wp2_with (fail)
                    refine (sign_no (HP3.out.grown G0.out) HT.out HF.out _ T0.out).mono ?_
                    rintro e w5 ⟨rfl, hg4⟩
                    have G1 := Aside0.mk (G0.out.trans hg4)
                    have B1 := Aside0.mk (blk_grown B0.out hg4 (by simp))
                    clear hg4
                    go_wp2_with (fail)
                    rw [rounds_succ]
                    go_wp2_with (fail)
                    refine (sign_no (HP3.out.grown G1.out) HT.out HF.out _ T1.out).mono ?_
                    rintro e w6 ⟨rfl, hg4⟩
                    have G2 := Aside0.mk (G1.out.trans hg4)
                    have B2 := Aside0.mk (blk_grown B1.out hg4 (by simp))
                    clear hg4
                    go_wp2_with (fail)
                    rw [rounds_succ]
                    go_wp2_with (fail)
                    refine (sign_no (HP3.out.grown G2.out) HT.out HF.out _ T2.out).mono ?_
                    rintro e w7 ⟨rfl, hg4⟩
                    have G3 := Aside0.mk (G2.out.trans hg4)
                    have B3 := Aside0.mk (blk_grown B2.out hg4 (by simp))
                    clear hg4
                    go_wp2_with (fail)
                    rw [rounds_succ]
                    go_wp2
                    go_meet
                    case rel =>
                      refine ⟨_, _, .slice A2 x.f2.length c2, HS.out, HP3.out.grown G3.out, HG3.out.trans (grown_some G3.out _), ?_, ?_, B3.out, ?_⟩
                      · exact Kd.R_mono (Kd.R_grown (Kd.R_bound HV3.out) G3.out (by simp)) (fun _ _ => trivial)
                      · exact blk_grown HZ3.out G3.out (by simp)
                      · exact Kd.R_mono (Kd.R_grown (Kd.R_bound HVX.out) G3.out (by simp)) (fun k hk => by have := hk.2.2.1; omega)
                  · rw [if_neg (by rw [s0]; simp), if_neg (by rw [s1]; simp), if_pos s2] at hh
                    have T0 := Aside0.mk s0
                    have T1 := Aside0.mk s1
                    have T2 := Aside0.mk s2
                    clear s0 s1 s2
                    cases hh
                    go_wp2_with (fail)
                    refine wp_loop_rounds 3 ?_
                    rw [rounds_succ]
                    go_wp2_with (fail)
                    refine (sign_no (HP3.out.grown G0.out) HT.out HF.out _ T0.out).mono ?_
                    rintro e w5 ⟨rfl, hg4⟩
                    have G1 := Aside0.mk (G0.out.trans hg4)
                    have B1 := Aside0.mk (blk_grown B0.out hg4 (by simp))
                    clear hg4
                    go_wp2_with (fail)
                    rw [rounds_succ]
                    go_wp2_with (fail)
                    refine (sign_no (HP3.out.grown G1.out) HT.out HF.out _ T1.out).mono ?_
                    rintro e w6 ⟨rfl, hg4⟩
                    have G2 := Aside0.mk (G1.out.trans hg4)
                    have B2 := Aside0.mk (blk_grown B1.out hg4 (by simp))
                    clear hg4
                    go_wp2_with (fail)
                    rw [rounds_succ]
                    go_wp2_with (fail)
                    refine (sign_yes (HP3.out.grown G2.out) HT.out HF.out _ T2.out).mono ?_
                    rintro e w7 ⟨rfl, hg4⟩
                    have G3 := Aside0.mk (G2.out.trans hg4)
                    have B3 := Aside0.mk (blk_grown B2.out hg4 (by simp))
                    clear hg4
                    have P5 := Aside0.mk (HP3.out.grown G3.out)
                    have h1 : w7.cell? ⟨g, 1, none⟩ = some (.int .i64 j) := cellAt P5.out.blk 1 rfl
                    have z1 := blk_frozen P5.out.blk 1
                    have hn3 : g ≠ w3.heap.size := HP3.out.ne_new
                    have bx := B3.out
                    have FB := Aside0.mk (fun u o => blk_alloc (blk_far bx (p := ⟨g, 1, none⟩) (Ne.symm hn3) u) o)
                    have x0 := cellAt bx 0 rfl
                    have x1 := cellAt bx 1 rfl
                    have x2 := cellAt bx 2 rfl
                    have v0 := fun u o => blk_frozen (FB.out u o) 0
                    have v1 := fun u o => blk_frozen (FB.out u o) 1
                    have v2 := fun u o => blk_frozen (FB.out u o) 2
                    have k0 := fun u o => cellAt (FB.out u o) 0 rfl
                    have k1 := fun u o => cellAt (FB.out u o) 1 rfl
                    have k2 := fun u o => cellAt (FB.out u o) 2 rfl
                    clear bx
                    go_wp2
                    go_meet
                    case rel =>
                      have E1 : w3.grownBy ((w7.setCell ⟨g, 1, none⟩ (.int .i64 ((j : Int) + 1))).alloc (.cells #[.int .i64 x.f0, .string x.f1, .slice A2 x.f2.length c2] 48)) (some g) := grown_alloc (grown_set (grown_some G3.out _) 1 _) _
                      have L5 := blk_lt B3.out
                      have HVX5 : k48.R 48 (w7.setCell ⟨g, 1, none⟩ (.int .i64 ((j : Int) + 1))) wr.heap.size (fun k => wr.heap.size ≤ k ∧ k < w3.heap.size) (.slice A2 x.f2.length c2) x.f2 :=
                        Kd.R_step (Kd.R_mono (Kd.R_bound HVX.out) (fun _ hk => ⟨hk.2.1, hk.2.2.1⟩)) (fun k hk hlt => (grown_set (grown_some G3.out (some g)) 1 _).block k hlt (fun e => by have e := Option.some.inj e; omega))
                      have EF := grown_set3 (w := w3) E1 (q := w3.heap.size) (Nat.le_refl _) (.int .i64 7) (.string ⟨#[]⟩) (.slice (some ⟨w7.heap.size, 0, none⟩) 1 1)
                      refine ⟨_, _, .slice (some ⟨w7.heap.size, 0, none⟩) 1 1, HS.out, HP3.out.step EF ?_, HG3.out.trans EF, ?_, ?_, ?_, ?_⟩
                      · exact blk_far3 (P5.out.next.grown (grown_alloc (grown_refl _ _) _)).blk hn3 _ _ _
                      · exact Kd.R_mono (Kd.R_grown (Kd.R_bound HV3.out) EF (fun k hk e => by have e := Option.some.inj e; have := hk.2.1; have := HP.out.lt; omega)) (fun _ _ => trivial)
                      · exact blk_kept HZ3.out EF (Ne.symm hne)
                      · exact node_store (FB.out _ _) _ _ _
                      · have HV1 := R_oneK (ok' := fun k => k ≠ w3.heap.size) HVX5 (by have := HWR.out; have := L5; simp at this ⊢; omega) (fun k hk _ => Nat.ne_of_lt hk.2) (by have := L5; simp; omega)
                        have e1 : (w7.setCell ⟨g, 1, none⟩ (.int .i64 ((j : Int) + 1))).heap.size = w7.heap.size := by simp [World.setCell]
                        rw [e1] at HV1
                        exact R_far3 HV1 (fun k hk => hk) _ _ _
                · rw [if_neg (by rw [s0]; simp), if_pos s1] at hh
                  have T0 := Aside0.mk s0
                  have T1 := Aside0.mk s1
                  clear s0 s1
                  cases hh
                  go_wp2_with (fail)
                  refine wp_loop_rounds 2 ?_
                  rw [rounds_succ]
                  go_wp2_with (fail)
                  refine (sign_no (HP3.out.grown G0.out) HT.out HF.out _ T0.out).mono ?_
                  rintro e w5 ⟨rfl, hg4⟩
                  have G1 := Aside0.mk (G0.out.trans hg4)
                  have B1 := Aside0.mk (blk_grown B0.out hg4 (by simp))
                  clear hg4
                  go_wp2_with (fail)
                  rw [rounds_succ]
                  go_wp2_with (fail)
                  refine (sign_yes (HP3.out.grown G1.out) HT.out HF.out _ T1.out).mono ?_
                  rintro e w6 ⟨rfl, hg4⟩
                  have G2 := Aside0.mk (G1.out.trans hg4)
                  have B2 := Aside0.mk (blk_grown B1.out hg4 (by simp))
                  clear hg4
                  have P5 := Aside0.mk (HP3.out.grown G2.out)
                  have h1 : w6.cell? ⟨g, 1, none⟩ = some (.int .i64 j) := cellAt P5.out.blk 1 rfl
                  have z1 := blk_frozen P5.out.blk 1
                  have hn3 : g ≠ w3.heap.size := HP3.out.ne_new
                  have bx := B2.out
                  have FB := Aside0.mk (fun u o => blk_alloc (blk_far bx (p := ⟨g, 1, none⟩) (Ne.symm hn3) u) o)
                  have x0 := cellAt bx 0 rfl
                  have x1 := cellAt bx 1 rfl
                  have x2 := cellAt bx 2 rfl
                  have v0 := fun u o => blk_frozen (FB.out u o) 0
                  have v1 := fun u o => blk_frozen (FB.out u o) 1
                  have v2 := fun u o => blk_frozen (FB.out u o) 2
                  have k0 := fun u o => cellAt (FB.out u o) 0 rfl
                  have k1 := fun u o => cellAt (FB.out u o) 1 rfl
                  have k2 := fun u o => cellAt (FB.out u o) 2 rfl
                  clear bx
                  go_wp2
                  go_meet
                  case rel =>
                    have E1 : w3.grownBy ((w6.setCell ⟨g, 1, none⟩ (.int .i64 ((j : Int) + 1))).alloc (.cells #[.int .i64 x.f0, .string x.f1, .slice A2 x.f2.length c2] 48)) (some g) := grown_alloc (grown_set (grown_some G2.out _) 1 _) _
                    have L5 := blk_lt B2.out
                    have HVX5 : k48.R 48 (w6.setCell ⟨g, 1, none⟩ (.int .i64 ((j : Int) + 1))) wr.heap.size (fun k => wr.heap.size ≤ k ∧ k < w3.heap.size) (.slice A2 x.f2.length c2) x.f2 :=
                      Kd.R_step (Kd.R_mono (Kd.R_bound HVX.out) (fun _ hk => ⟨hk.2.1, hk.2.2.1⟩)) (fun k hk hlt => (grown_set (grown_some G2.out (some g)) 1 _).block k hlt (fun e => by have e := Option.some.inj e; omega))
                    have EF := grown_set3 (w := w3) E1 (q := w3.heap.size) (Nat.le_refl _) (.int .i64 6) (.string ⟨#[]⟩) (.slice (some ⟨w6.heap.size, 0, none⟩) 1 1)
                    refine ⟨_, _, .slice (some ⟨w6.heap.size, 0, none⟩) 1 1, HS.out, HP3.out.step EF ?_, HG3.out.trans EF, ?_, ?_, ?_, ?_⟩
                    · exact blk_far3 (P5.out.next.grown (grown_alloc (grown_refl _ _) _)).blk hn3 _ _ _
                    · exact Kd.R_mono (Kd.R_grown (Kd.R_bound HV3.out) EF (fun k hk e => by have e := Option.some.inj e; have := hk.2.1; have := HP.out.lt; omega)) (fun _ _ => trivial)
                    · exact blk_kept HZ3.out EF (Ne.symm hne)
                    · exact node_store (FB.out _ _) _ _ _
                    · have HV1 := R_oneK (ok' := fun k => k ≠ w3.heap.size) HVX5 (by have := HWR.out; have := L5; simp at this ⊢; omega) (fun k hk _ => Nat.ne_of_lt hk.2) (by have := L5; simp; omega)
                      have e1 : (w6.setCell ⟨g, 1, none⟩ (.int .i64 ((j : Int) + 1))).heap.size = w6.heap.size := by simp [World.setCell]
                      rw [e1] at HV1
                      exact R_far3 HV1 (fun k hk => hk) _ _ _
              · rw [if_pos s0] at hh
                have T0 := Aside0.mk s0
                clear s0
                cases hh
                go_wp2_with (fail)
                refine wp_loop_rounds 1 ?_
                rw [rounds_succ]
                go_wp2_with (fail)
                refine (sign_yes (HP3.out.grown G0.out) HT.out HF.out _ T0.out).mono ?_
                rintro e w5 ⟨rfl, hg4⟩
                have G1 := Aside0.mk (G0.out.trans hg4)
                have B1 := Aside0.mk (blk_grown B0.out hg4 (by simp))
                clear hg4
                have P5 := Aside0.mk (HP3.out.grown G1.out)
                have h1 : w5.cell? ⟨g, 1, none⟩ = some (.int .i64 j) := cellAt P5.out.blk 1 rfl
                have z1 := blk_frozen P5.out.blk 1
                have hn3 : g ≠ w3.heap.size := HP3.out.ne_new
                have bx := B1.out
                have FB := Aside0.mk (fun u o => blk_alloc (blk_far bx (p := ⟨g, 1, none⟩) (Ne.symm hn3) u) o)
                have x0 := cellAt bx 0 rfl
                have x1 := cellAt bx 1 rfl
                have x2 := cellAt bx 2 rfl
                have v0 := fun u o => blk_frozen (FB.out u o) 0
                have v1 := fun u o => blk_frozen (FB.out u o) 1
                have v2 := fun u o => blk_frozen (FB.out u o) 2
                have k0 := fun u o => cellAt (FB.out u o) 0 rfl
                have k1 := fun u o => cellAt (FB.out u o) 1 rfl
                have k2 := fun u o => cellAt (FB.out u o) 2 rfl
                clear bx
                go_wp2
                go_meet
                case rel =>
                  have E1 : w3.grownBy ((w5.setCell ⟨g, 1, none⟩ (.int .i64 ((j : Int) + 1))).alloc (.cells #[.int .i64 x.f0, .string x.f1, .slice A2 x.f2.length c2] 48)) (some g) := grown_alloc (grown_set (grown_some G1.out _) 1 _) _
                  have L5 := blk_lt B1.out
                  have HVX5 : k48.R 48 (w5.setCell ⟨g, 1, none⟩ (.int .i64 ((j : Int) + 1))) wr.heap.size (fun k => wr.heap.size ≤ k ∧ k < w3.heap.size) (.slice A2 x.f2.length c2) x.f2 :=
                    Kd.R_step (Kd.R_mono (Kd.R_bound HVX.out) (fun _ hk => ⟨hk.2.1, hk.2.2.1⟩)) (fun k hk hlt => (grown_set (grown_some G1.out (some g)) 1 _).block k hlt (fun e => by have e := Option.some.inj e; omega))
                  have EF := grown_set3 (w := w3) E1 (q := w3.heap.size) (Nat.le_refl _) (.int .i64 5) (.string ⟨#[]⟩) (.slice (some ⟨w5.heap.size, 0, none⟩) 1 1)
                  refine ⟨_, _, .slice (some ⟨w5.heap.size, 0, none⟩) 1 1, HS.out, HP3.out.step EF ?_, HG3.out.trans EF, ?_, ?_, ?_, ?_⟩
                  · exact blk_far3 (P5.out.next.grown (grown_alloc (grown_refl _ _) _)).blk hn3 _ _ _
                  · exact Kd.R_mono (Kd.R_grown (Kd.R_bound HV3.out) EF (fun k hk e => by have e := Option.some.inj e; have := hk.2.1; have := HP.out.lt; omega)) (fun _ _ => trivial)
                  · exact blk_kept HZ3.out EF (Ne.symm hne)
                  · exact node_store (FB.out _ _) _ _ _
                  · have HV1 := R_oneK (ok' := fun k => k ≠ w3.heap.size) HVX5 (by have := HWR.out; have := L5; simp at this ⊢; omega) (fun k hk _ => Nat.ne_of_lt hk.2) (by have := L5; simp; omega)
                    have e1 : (w5.setCell ⟨g, 1, none⟩ (.int .i64 ((j : Int) + 1))).heap.size = w5.heap.size := by simp [World.setCell]
                    rw [e1] at HV1
                    exact R_far3 HV1 (fun k hk => hk) _ _ _
            case rest =>
              obtain ⟨y', k', vy, hs', hp, hg, hv, hz, hb, hvy⟩ := hcut
              rw [hs] at hs'
              cases hs'
              obtain ⟨A5, c5, rfl⟩ := Kd.R_slice hvy
              have HPc := Aside0.mk hp
              have HGc := Aside0.mk hg
              have HVc := Aside0.mk hv
              have HZc := Aside0.mk hz
              have hk6 := suffP_ok hs
              have HKK := Aside0.mk hk
              have HJK := Aside0.mk hk6
              have hlz := blk_lt KZ.out
              have HM_ := Aside0.mk (k48_mkM wc (w.heap.size + 1) (fun k => wr.heap.size ≤ k) y (Kd.R_lower (Kd.R_mono (Kd.R_bound hvy) (fun k hk => hk.2.1)) hlz))
              have HF_ : Aside0 (∀ k, wr.heap.size ≤ k → True ∧ some k ≠ (Value.slice A1 acc.length c1).ownBlock) := ⟨fun k hk => ⟨trivial, fun e => by have := Kd.R_lt KV.out k e.symm; omega⟩⟩
              have HBS := Aside0.mk (show w.heap.size + 1 ≤ wc.heap.size from by have := blk_lt hz; omega)
              have x0 := cellAt hb 0 rfl
              have x1 := cellAt hb 1 rfl
              have x2 := cellAt hb 2 rfl
              clear hp hg hv hz hb hvy hk6 hs hk
              go_wp2_with (first | ((with_reducible refine gate_builtin (b := .append) (xs := #[.tmp 36, .tmp 38]) rfl ?_); at_builtin; refine Kd.R_append k48 (w0 := wc) (w.heap.size + 1) rfl (.tmp 36) (.tmp 38) 46 48 (.agg #[(.int .i64 0), (.string ⟨#[]⟩), (.slice none 0 0)]) 48 rfl Try.underlying46 infoNodes rfl (by decide) (by decide) (.slice A1 acc.length c1) acc y [.int .i64 y.f0, .string y.f1, .slice A5 y.f2.length c5] (fun _ => True) (fun k => wr.heap.size ≤ k) rfl rfl HM_.out HF_.out (fun _ _ => trivial) HVc.out (Below.refl _ _) HBS.out (by have := HAL.out; have := HLO.out.1; omega) ?_; intro v1 w6 hO hB hG hat; have HO6 := Aside0.mk hO; have HG6 := Aside0.mk hG; clear hO hB hG hat))
              have hbb : ∀ k, (Value.slice A1 acc.length c1).ownBlock = some k → w.heap.size + 1 ≤ k := fun k hk => Kd.R_base HVc.out k hk
              have HGF := grown_newer HGc.out HG6.out (fun k hk => by have := hbb k hk; omega)
              go_roundg m
              case measure => omega
              case rel =>
                refine ⟨_, acc ++ [y], HP.out.step HGF ?_, HGF, HO6.out, HKK.out, ?_, ?_⟩
                · exact blk_grown HPc.out.blk HG6.out (fun e => by have := hbb _ e.symm; have := HP.out.lt; omega)
                · have := HAL.out; have := HLO.out.2; have := HJK.out; simp; omega
                · exact blk_grown HZc.out HG6.out (fun e => by have := hbb _ e.symm; omega)
end
end Go.Proofs.Ytdbkooliafkcgaa.Sw

set_option linter.unusedVariables false
set_option linter.unusedSimpArgs false
namespace Go.Proofs.Ytdbkooliafkcgaa.Sw
open Go.RowKit Go.Proofs.YtdbkooliafkcgaaW.PrintWords Go.Proofs.YtdbkooliafkcgaaW.PrintLast Go.Proofs.YtdbkooliafkcgaaW.PrintMore Go.Proofs.Ytdbkooliafkcgaa Go.Proofs.Ytdbkooliafkcgaa.P Go.Proofs.Ytdbkooliafkcgaa.Lw

section
variable {g : Nat} {A : Option Addr} {c : Nat} {ts : List S94} {i op : Nat} {w w' : World} {t : S94}
theorem rowL_ok {Alt : Nat → Nat → Option (PR S48)} (HM : AltM Alt) : ∀ {n i : Nat} {acc l : List S48} {j : Nat}, rowL Alt ts op n i acc = some (.ok l j) → i ≤ j
  | 0, _, _, _, _, h => by simp [rowL] at h
  | n + 1, i, acc, l, j, h => by
    unfold rowL at h
    rcases andThen_some h with ⟨_, _, _, _, hh⟩ | ⟨x, j1, h1, hk⟩
    · cases hh
    · cases x with
      | none =>
        have := atomP_none h1
        cases hk
        omega
      | some x =>
        have := atomP_ok HM h1
        rcases andThen_some hk with ⟨_, _, _, _, hh⟩ | ⟨y, j2, h2, hk⟩
        · cases hh
        · have := suffP_ok h2
          have := rowL_ok HM hk
          omega
theorem rowP_ok {Alt : Nat → Nat → Option (PR S48)} (HM : AltM Alt) {n i : Nat} {x : S48} {j : Nat} (h : rowP Alt ts n op i = some (.ok x j)) : i ≤ j := by
  obtain ⟨q, hq, hr⟩ := map_some h
  cases q with
  | bad l k x => cases hr
  | ok l k => cases hr; exact rowL_ok HM hq
theorem altL_ok {Alt : Nat → Nat → Option (PR S48)} (HM : AltM Alt) {m : Nat} : ∀ {n i : Nat} {acc l : List S48} {j : Nat}, altL Alt ts m op n i acc = some (.ok l j) → i ≤ j
  | 0, _, _, _, _, h => by simp [altL] at h
  | n + 1, i, acc, l, j, h => by
    unfold altL at h
    obtain ⟨t, ht, ⟨hf, hh⟩ | ⟨hf, hh⟩⟩ := peekP_some h
    · cases hh
    · split at hh
      · rcases andThen_some hh with ⟨_, _, _, _, hh⟩ | ⟨x, j1, h1, hk⟩
        · cases hh
        · have := rowP_ok HM h1
          have := altL_ok HM hk
          omega
      · cases hh; omega
theorem altP_ok : ∀ n, AltM (altP ts n)
  | 0, _, _, _, _, h => by simp [altP] at h
  | n + 1, op, i, x, j, h => by
    obtain ⟨q, hq, hr⟩ := map_some (show Option.map _ _ = some _ from h)
    cases q with
    | bad l k x => cases hr
    | ok l k =>
      cases hr
      rcases andThen_some hq with ⟨_, _, _, _, hh⟩ | ⟨x1, j1, h1, hk⟩
      · cases hh
      · have := rowP_ok (altP_ok n) h1
        have := altL_ok (altP_ok n) hk
        omega
theorem rowP_calls {Alt : Nat → Nat → Option (PR S48)} (HA : AltC g A c ts Alt) (HM : AltM Alt) (h : PE w g A c ts i op) (hop : op ≤ 16) {n : Nat} {r : PR S48} (hr : rowP Alt ts n op i = some r) :
    Calls Try.prog 52 #[.pointer (some ⟨g, 0, none⟩)] w (NodePost w g A c ts op r) := by
  obtain ⟨q, hq, rfl⟩ := map_some hr
  exact row_calls HA HM h hop hq
/-- Between two rows. -/
def AltR (w : World) (g : Nat) (A : Option Addr) (c : Nat) (ts : List S94) (op m : Nat) (Alt : Nat → Nat → Option (PR S48)) (r0 : PR (List S48)) (k : Nat) (v : Value) (wr : World) : Prop :=
  ∃ i acc, PE wr g A c ts i op ∧ w.grownBy wr (some g) ∧ k48.R 48 wr (w.heap.size + 1) (fun _ => True) v acc ∧ altL Alt ts m op k i acc = some r0 ∧ acc.length ≤ i + 1 ∧ wr.heap[w.heap.size]? = some zeroNode
theorem signB_kind {s : ByteArray} (h : signB t s = true) : t.f0 = 3 := by
  unfold signB at h
  simp only [Bool.and_eq_true, beq_iff_eq] at h
  exact h.1

set_option maxHeartbeats 8000000 in
set_option maxRecDepth 100000 in
theorem alt_go {Alt : Nat → Nat → Option (PR S48)} (HA : AltC g A c ts Alt) (HM : AltM Alt) (h : PE w g A c ts i op) (hop : op ≤ 16) {m n : Nat} {r0 : PR (List S48)}
    (hr : (andThen (rowP Alt ts m op i) fun x j => altL Alt ts m op n j [x]) = some r0) :
    Calls Try.prog 43 #[.pointer (some ⟨g, 0, none⟩)] w (NodePost w g A c ts op (r0.map (oneOr 4))) := by
  have HP := Aside0.mk h
  have HAA := Aside0.mk HA
  have HMM := Aside0.mk HM
  have hop' := Aside0.mk hop
  have hne := h.ne_new
  have hgl := Aside0.mk h.lt
  clear h HA HM hop
  rcases andThen_some hr with ⟨l, k, x, hx, rfl⟩ | ⟨x, j, hx, hk⟩
  · have HX := Aside0.mk hx
    clear hr hx
    go_enter Try.func43, Try.ntmps43
    go_wp2_with (fail)
    refine (rowP_calls HAA.out HMM.out (HP.out.grown (grown_alloc (grown_refl _ _) zeroNode)) hop'.out HX.out).mono ?_
    rintro e w3 ⟨hg, he⟩
    replace he : e = Wrong l k x := he
    subst he
    go_wp2
    simp only [bodyPost, true_and]
    exact ⟨(grown_alloc (grown_refl _ _) zeroNode).trans hg, rfl⟩
  · have HX := Aside0.mk hx
    have HK := Aside0.mk hk
    clear hr hx hk
    go_enter Try.func43, Try.ntmps43
    go_wp2_with (fail)
    refine (rowP_calls HAA.out HMM.out (HP.out.grown (grown_alloc (grown_refl _ _) zeroNode)) hop'.out HX.out).mono ?_
    rintro e w3 ⟨hg, hp3, v, rfl, hv⟩
    obtain ⟨A1, c1, rfl⟩ := Kd.R_slice hv
    have HG3 := Aside0.mk ((grown_alloc (grown_refl w (some g)) zeroNode).trans hg)
    have HP3 := Aside0.mk hp3
    have HV := Aside0.mk hv
    have HZ3 := Aside0.mk (blk_kept (blk_new w zeroNode) hg (Ne.symm hne))
    clear hg hp3 hv
    go_wp2_with (fail)
    have HROW : Aside0 (k48.R 48 (w3.alloc (.cells #[.int .i64 x.f0, .string x.f1, .slice A1 x.f2.length c1] 48)) (w.heap.size + 1) (fun _ => True) (.slice (some ⟨w3.heap.size, 0, none⟩) 1 1) [x]) :=
      ⟨R_one (Kd.R_lower HV.out (by simp)) (by have := blk_lt HZ3.out; omega)⟩
    have HP4 := Aside0.mk (HP3.out.grown (grown_alloc (grown_refl w3 none) (.cells #[.int .i64 x.f0, .string x.f1, .slice A1 x.f2.length c1] 48)))
    have HG4 := Aside0.mk (grown_alloc HG3.out (.cells #[.int .i64 x.f0, .string x.f1, .slice A1 x.f2.length c1] 48))
    have HZ4 := Aside0.mk (blk_alloc HZ3.out (.cells #[.int .i64 x.f0, .string x.f1, .slice A1 x.f2.length c1] 48))
    go_loopg [3] (n) (fun k s3 wr => AltR w g A c ts op m Alt r0 k s3 wr)
    case atStart =>
      exact ⟨j, [x], HP4.out, HG4.out, HROW.out, HK.out, by simp, HZ4.out⟩
    case round =>
      obtain ⟨i1, acc, hp, hg, hv, hrow, hal, hz⟩ := hrel
      cases gk with
      | zero => exact absurd hrow (by simp [altL])
      | succ n' =>
        unfold altL at hrow
        have KP := Aside0.mk hp
        have KG := Aside0.mk hg
        have KV := Aside0.mk hv
        have KZ := Aside0.mk hz
        have HAL := Aside0.mk hal
        obtain ⟨A5, c5, rfl⟩ := Kd.R_slice hv
        clear hp hg hz hv hal
        obtain ⟨t, ht, ⟨hf, hh⟩ | ⟨hf, hh⟩⟩ := peekP_some hrow
        · cases hh
          have HT := Aside0.mk ht
          have HF := Aside0.mk hf
          clear ht hf hrow
          go_wp2_with (fail)
          refine (sign_far KP.out HT.out HF.out _).mono ?_
          rintro e w5 ⟨rfl, hg⟩
          go_wp2
          simp only [bodyPost, true_and]
          exact ⟨KG.out.trans (grown_some hg _), rfl⟩
        · have HT := Aside0.mk ht
          have HF := Aside0.mk hf
          have hm := KP.out.small ht
          clear ht hf hrow
          split at hh
          · rename_i hs
            have HS := Aside0.mk hs
            have HH := Aside0.mk hh
            have hlo := farB_lt HF.out (by have := signB_kind hs; omega)
            clear hs hh
            go_wp2_with (fail)
            refine (sign_yes KP.out HT.out HF.out _ HS.out).mono ?_
            rintro e w5 ⟨rfl, hg⟩
            have G5 := Aside0.mk (KG.out.trans (grown_some hg _))
            have P5 := Aside0.mk (KP.out.grown hg)
            have V5 := Aside0.mk (Kd.R_mono (Kd.R_grown (Kd.R_bound KV.out) hg (by simp)) (fun _ _ => trivial : ∀ k, _ → True))
            have Z5 := Aside0.mk (blk_grown KZ.out hg (by simp))
            have h1 : w5.cell? ⟨g, 1, none⟩ = some (.int .i64 i1) := cellAt P5.out.blk 1 rfl
            have z1 := blk_frozen P5.out.blk 1
            clear hg
            rcases andThen_some HH.out with ⟨l, k, e, hs, rfl⟩ | ⟨y, k, hs, hk⟩
            · have HX2 := Aside0.mk hs
              clear hs
              go_wp2_with (fail)
              refine (rowP_calls HAA.out HMM.out P5.out.next hop'.out HX2.out).mono ?_
              rintro e' w6 ⟨hg, he⟩
              replace he : e' = Wrong l k e := he
              subst he
              go_wp2
              simp only [bodyPost, true_and]
              exact ⟨(grown_set G5.out _ _).trans hg, rfl⟩
            · have HX2 := Aside0.mk hs
              have HKK := Aside0.mk hk
              have HJ := Aside0.mk (rowP_ok HMM.out hs)
              clear hs hk
              go_wp2_with (fail)
              refine (rowP_calls HAA.out HMM.out P5.out.next hop'.out HX2.out).mono ?_
              rintro e' w6 ⟨hg, hp6, v6, rfl, hv6⟩
              obtain ⟨A6, c6, rfl⟩ := Kd.R_slice hv6
              have hgl5 := Aside0.mk P5.out.lt
              have hsz : (w5.setCell ⟨g, 1, none⟩ (.int .i64 ((i1 : Int) + 1))).heap.size = w5.heap.size := by simp [World.setCell]
              rw [hsz] at hv6
              have HSZ := Aside0.mk hsz
              have HGc := Aside0.mk ((grown_set G5.out 1 (.int .i64 ((i1 : Int) + 1))).trans hg)
              have HVc : Aside0 (k48.R 48 w6 (w.heap.size + 1) (fun _ => True) (.slice A5 acc.length c5) acc) :=
                ⟨Kd.R_mono (Kd.R_grown (Kd.R_step (Kd.R_bound V5.out) (fun k hk hlt => (grown_set (grown_refl w5 (some g)) 1 _).block k hlt (fun e => by have e := Option.some.inj e; have := hk.2.1; have := hgl.out; omega))) hg (fun k hk e => by have e := Option.some.inj e; have := hk.2.1; have := hgl.out; omega)) (fun _ _ => trivial)⟩
              have HZc := Aside0.mk (blk_kept (blk_far Z5.out (p := ⟨g, 1, none⟩) (Ne.symm hne) (.int .i64 ((i1 : Int) + 1))) hg (Ne.symm hne))
              have HPc := Aside0.mk hp6
              have hlz := blk_lt Z5.out
              have HM_ := Aside0.mk (k48_mkM w6 (w.heap.size + 1) (fun k => w5.heap.size ≤ k) y (Kd.R_lower (Kd.R_mono (Kd.R_bound hv6) (fun k hk => hk.2.1)) hlz))
              have HF_ : Aside0 (∀ k, w5.heap.size ≤ k → True ∧ some k ≠ (Value.slice A5 acc.length c5).ownBlock) := ⟨fun k hk => ⟨trivial, fun e => by have := Kd.R_lt V5.out k e.symm; omega⟩⟩
              have HBS := Aside0.mk (show w.heap.size + 1 ≤ w6.heap.size from by have := blk_lt HZc.out; omega)
              clear hg hp6 hv6 hsz h1 z1
              go_wp2_with (first | ((with_reducible refine gate_builtin (b := .append) (xs := #[.tmp 16, .tmp 19]) rfl ?_); at_builtin; refine Kd.R_append k48 (w0 := w6) (w.heap.size + 1) rfl (.tmp 16) (.tmp 19) 46 48 (.agg #[(.int .i64 0), (.string ⟨#[]⟩), (.slice none 0 0)]) 48 rfl Try.underlying46 infoNodes rfl (by decide) (by decide) (.slice A5 acc.length c5) acc y [.int .i64 y.f0, .string y.f1, .slice A6 y.f2.length c6] (fun _ => True) (fun k => w5.heap.size ≤ k) rfl rfl HM_.out HF_.out (fun _ _ => trivial) HVc.out (Below.refl _ _) HBS.out (by have := HAL.out; omega) ?_; intro v1 w7 hO hB hG hat; have HO6 := Aside0.mk hO; have HG6 := Aside0.mk hG; clear hO hB hG hat))
              have hbb : ∀ k, (Value.slice A5 acc.length c5).ownBlock = some k → w.heap.size + 1 ≤ k := fun k hk => Kd.R_base HVc.out k hk
              have HGF := grown_newer HGc.out HG6.out (fun k hk => by have := hbb k hk; omega)
              go_roundg n'
              case measure => omega
              case rel =>
                refine ⟨_, acc ++ [y], HP.out.step HGF ?_, HGF, HO6.out, HKK.out, ?_, ?_⟩
                · exact blk_grown HPc.out.blk HG6.out (fun e => by have := hbb _ e.symm; have := hgl.out; omega)
                · have := HAL.out; have := HJ.out; simp; omega
                · exact blk_grown HZc.out HG6.out (fun e => by have := hbb _ e.symm; omega)
          · rename_i hs
            cases hh
            have HS := Aside0.mk (Bool.eq_false_iff.mpr hs)
            clear hs
            go_wp2_with (fail)
            refine (sign_no KP.out HT.out HF.out _ HS.out).mono ?_
            rintro e w5 ⟨rfl, hg⟩
            have HG5 := Aside0.mk (KG.out.trans (grown_some hg _))
            have HP5 := Aside0.mk (KP.out.grown hg)
            have HV5 := Aside0.mk (Kd.R_grown (Kd.R_bound KV.out) hg (by simp))
            have hz5 := blk_grown KZ.out hg (by simp)
            have HZ5 := Aside0.mk hz5
            have q0 := cellAt hz5 0 rfl
            have q1 := cellAt hz5 1 rfl
            have q2 := cellAt hz5 2 rfl
            have y0 := blk_frozen hz5 0
            have y1 := blk_frozen hz5 1
            have y2 := blk_frozen hz5 2
            clear hg hz5
            by_cases hacc : acc.length = 1
            · obtain ⟨x, rfl⟩ := List.length_eq_one_iff.1 hacc
              obtain ⟨q, cap, A2, c2, hv, hx0, hx1, hx2, hR, hb, hl⟩ := row_one HV5.out
              cases hv
              have HRX := Aside0.mk hR
              clear hR hacc
              go_wp2
              have HGF := grown_set3 HG5.out (Nat.le_refl w.heap.size) (.int .i64 x.f0) (.string x.f1) (.slice A2 x.f2.length c2)
              refine bodyPost_ret (results_cell_row (ty := 48) (p := 2) rfl _ _ w.heap.size 48 #[.int .i64 x.f0, .string x.f1, .slice A2 x.f2.length c2] (0, 0) _ rfl ?_ Try.underlying48 rfl infoNode) rfl ⟨HGF, HP.out.step HGF ?_, _, rfl, ?_⟩
              · exact node_store HZ5.out _ _ _
              · exact blk_far3 HP5.out.blk hne _ _ _
              · exact Kd.R_mono (Kd.R_lower (R_far3 HRX.out (fun k hk e => by have := hk.2.1; omega) _ _ _) (Nat.le_succ _)) (fun _ _ => trivial)
            · have b1 : ((acc.length : Int) == 1) = false := beq_eq_false_iff_ne.mpr (by omega)
              have HN := Aside0.mk hacc
              clear hacc
              go_wp2
              have HGF := grown_set3 HG5.out (Nat.le_refl w.heap.size) (.int .i64 4) (.string ⟨#[]⟩) (.slice A5 acc.length c5)
              simp only [PR.map]
              rw [oneOr_many HN.out]
              refine bodyPost_ret (results_cell_row (ty := 48) (p := 2) rfl _ _ w.heap.size 48 #[.int .i64 4, .string ⟨#[]⟩, .slice A5 acc.length c5] (0, 0) _ rfl ?_ Try.underlying48 rfl infoNode) rfl ⟨HGF, HP.out.step HGF ?_, _, rfl, ?_⟩
              · exact node_store HZ5.out _ _ _
              · exact blk_far3 HP5.out.blk hne _ _ _
              · exact Kd.R_mono (Kd.R_lower (R_far3 HV5.out (fun k hk e => by have := hk.2.1; omega) _ _ _) (Nat.le_succ _)) (fun _ _ => trivial)
theorem alt_calls : ∀ n, AltC g A c ts (altP ts n)
  | 0, _, _, _, _, _, _, h => by simp [altP] at h
  | n + 1, w, i, op, r, hop, hp, h => by
    obtain ⟨q, hq, rfl⟩ := map_some (show Option.map _ _ = some r from h)
    exact alt_go (alt_calls n) (altP_ok n) hp hop hq
end
end Go.Proofs.Ytdbkooliafkcgaa.Sw
