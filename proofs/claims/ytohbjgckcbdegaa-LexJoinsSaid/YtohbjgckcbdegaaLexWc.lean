/- The walks of package lex: ended, name. -/
import Derived.Test.YtohbjgckcbdegaaLexWb
import Derived.Deep.RegionHeld3
import Derived.Deep.AppendLies
set_option linter.unusedVariables false
set_option linter.unusedSimpArgs false
namespace Go.Proofs.Ytohbjgckcbdegaa.Lw
open Go.RowKit Go.Proofs.YtohbjgckcbdegaaW.PrintWords Go.Proofs.YtohbjgckcbdegaaW.PrintLast Go.Proofs.YtohbjgckcbdegaaW.PrintMore Go.Proofs.Ytohbjgckcbdegaa

theorem infoTok : (Try.prog.info? 31).map (fun i => (i.zero, i.size, i.bytes)) = some (some (.agg #[(.int .i64 0), (.string ⟨#[]⟩), (.int .i64 0), (.int .i64 0)]), 4, 40) := by kernel_rfl

/-- The scanner and its tokens. -/
structure Scs (b : Nat) (w : World) (g : Nat) (s : ByteArray) (a line col : Int) (v : Value) (xs : List Value) (n : Nat) (f5 f6 f7 : Int) : Prop where
  scn : Scn w g s a line col v f5 f6 f7
  own : w.ownsRow b 31 4 v n xs
  ge : b ≤ g

/-- What a token's reading leaves. -/
def TokP (b : Nat) (w : World) (g : Nat) (s : ByteArray) (xs : List Value) (n : Nat) (f5 f6 f7 : Int) (res : Except Lx.Flt (Lx.Tok × List UInt8 × (Int × Int))) (x : Ending) (w' : World) : Prop :=
  match res with
  | .error f => x = .returned (.bool false) ∧ ∃ (a' l' c' : Int) (v' : Value), Scn w' g s a' l' c' v' f.p.1 f.p.2 f.code ∧ Below b w w'
  | .ok (t, rest, p) => x = .returned (.bool true) ∧ ∃ (tb : ByteArray) (v' : Value) (a' : Int), tb.data.toList = t.text ∧ suf s a' = rest ∧ At s a' p.1 p.2 ∧
      Scs b w' g s a' p.1 p.2 v' (xs ++ [.int .i64 t.kind, .string tb, .int .i64 t.p.1, .int .i64 t.p.2]) (n + 1) f5 f6 f7 ∧ Below b w w'

/-- What an append of a token to the scanner's tokens leaves. -/
theorem append_close {b g gg cap n : Nat} {s : ByteArray} {a line col : Int} {v : Value} {xs ys : List Value} {f5 f6 f7 : Int} {w W1 w1 : World} {o : Obj} {P : Prop} (hlt : g < w.heap.size) (hge : b ≤ g) (HBl : Below b w W1)
    (HS : Scn W1 g s a line col v f5 f6 f7) (HO : W1.ownsRow b 31 4 v n xs) (hgrow : (W1.alloc o).drew.grownBy w1 v.ownBlock) (hown1 : w1.ownsRow b 31 4 (.slice (some ⟨gg, 0, none⟩) (n + 1) cap) (n + 1) (xs ++ ys)) (ng : some g ≠ v.ownBlock) (hP : P) :
    P ∧ ∃ v', Scs b (w1.setCell ⟨g, 4, none⟩ (.slice (some ⟨gg, 0, none⟩) (n + 1) cap)) g s a line col v' (xs ++ ys) (n + 1) f5 f6 f7 ∧ Below b w (w1.setCell ⟨g, 4, none⟩ (.slice (some ⟨gg, 0, none⟩) (n + 1) cap)) := by
  have h1 : Scn w1 g s a line col v f5 f6 f7 := (HS.alloc o).drew.grown hgrow ng
  have hs := HBl.size
  refine ⟨hP, .slice (some ⟨gg, 0, none⟩) (n + 1) cap, ⟨?_, own_setCell hown1 (own_ne (g := g) (t := 47) hown1 h1 (by decide)) _, hge⟩, ?_⟩
  · have := blk_set h1 4 (.slice (some ⟨gg, 0, none⟩) (n + 1) cap)
    unfold Scn
    simpa using this
  · refine Below.setCell (Below.grown (Below.drew (Below.alloc HBl (by omega) o)) hgrow (by simp; omega) (own_base HO)) hge _

set_option maxHeartbeats 1000000 in
set_option maxRecDepth 100000 in
theorem ended_empty {g : Nat} {s : ByteArray} {a line col : Int} {v : Value} {f5 f6 f7 : Int} {w : World} (hb : Scn w g s a line col v f5 f6 f7) (k l c : Int) (t0 t : ByteArray) (ht : t.data.toList = []) :
    Calls Try.prog 38 #[.pointer (some ⟨g, 0, none⟩), .agg #[.int .i64 k, .string t0, .int .i64 l, .int .i64 c], .string t] w fun x w' => x = .returned (.bool false) ∧ Scn w' g s a line col v l c 2 ∧ w.grownBy w' (some g) := by
  have HB := Aside0.mk hb
  clear hb
  have ht' : t.toList = [] := (ByteArray.toList_eq t).trans ht
  clear ht
  go_enter Try.func38, Try.ntmps38
  go_wp2_with (go_at_call 33; refine (fail_calls (HB.out.alloc _) _ _ _ _ _).mono ?_; rintro e w1 ⟨rfl, hS, hG⟩)
  go_ret
  exact ⟨rfl, hS, (grown_alloc (grown_refl _ _) _).trans hG⟩

set_option maxHeartbeats 1000000 in
set_option maxRecDepth 100000 in
theorem ended_long {g : Nat} {s : ByteArray} {a line col : Int} {v : Value} {f5 f6 f7 : Int} {w : World} (hb : Scn w g s a line col v f5 f6 f7) (k l c : Int) (t0 t : ByteArray) (ht : 16 < t.size) :
    Calls Try.prog 38 #[.pointer (some ⟨g, 0, none⟩), .agg #[.int .i64 k, .string t0, .int .i64 l, .int .i64 c], .string t] w fun x w' => x = .returned (.bool false) ∧ Scn w' g s a line col v l c 6 ∧ w.grownBy w' (some g) := by
  have HB := Aside0.mk hb
  clear hb
  have ht' : (t.toList.isEmpty) = false := by rw [ByteArray.toList_eq]; cases h : t.data.toList with
    | nil => have : t.data.toList.length = t.size := Array.length_toList; rw [h] at this; simp at this; omega
    | cons => rfl
  have ht2 : ¬ t.toList = [] := by intro h; rw [h] at ht'; simp at ht'
  go_enter Try.func38, Try.ntmps38
  go_wp2_with (go_at_call 33; refine (fail_calls (HB.out.alloc _) _ _ _ _ _).mono ?_; rintro e w1 ⟨rfl, hS, hG⟩)
  go_ret
  exact ⟨rfl, hS, (grown_alloc (grown_refl _ _) _).trans hG⟩

set_option maxHeartbeats 1000000 in
set_option maxRecDepth 100000 in
theorem ended_ok {b g : Nat} {s : ByteArray} {a line col : Int} {v : Value} {xs : List Value} {n : Nat} {f5 f6 f7 : Int} {w : World} (hb : Scs b w g s a line col v xs n f5 f6 f7) (k l c : Int) (t0 t : ByteArray) (ht : 1 ≤ t.size) (h16 : t.size ≤ 16) (hn : n ≤ 1000000) :
    Calls Try.prog 38 #[.pointer (some ⟨g, 0, none⟩), .agg #[.int .i64 k, .string t0, .int .i64 l, .int .i64 c], .string t] w fun x w' => x = .returned (.bool true) ∧
      ∃ v', Scs b w' g s a line col v' (xs ++ [.int .i64 k, .string t, .int .i64 l, .int .i64 c]) (n + 1) f5 f6 f7 ∧ Below b w w' := by
  have HB := Aside0.mk hb
  have hlt := hb.scn.lt
  have hge := hb.ge
  clear hb
  have ht2 : ¬ t.toList = [] := by
    rw [ByteArray.toList_eq]
    intro h
    have : t.data.toList.length = t.size := Array.length_toList
    rw [h] at this; simp at this; omega
  have ht' : (t.toList.isEmpty) = false := by simpa using ht2
  obtain ⟨i0, hi0, hz0, hz1, hz2⟩ := info_parts infoTok
  have hown := HB.out.own
  have h4 : ∀ o1, (w.alloc o1).cell? ⟨g, 4, none⟩ = some v := fun o1 => (blk_cell (HB.out.scn.alloc o1) 4).trans rfl
  go_enter Try.func38, Try.ntmps38
  go_wp2_with fail
  have HX := blk_new w (.cells #[.int .i64 k, .string t, .int .i64 l, .int .i64 c] 31)
  have HS := HB.out.scn.alloc (.cells #[.int .i64 k, .string t, .int .i64 l, .int .i64 c] 31)
  have HO := hown.alloc (.cells #[.int .i64 k, .string t, .int .i64 l, .int .i64 c] 31)
  have HBl := below_alloc (Below.refl w.heap.size w) (.cells #[.int .i64 k, .string t, .int .i64 l, .int .i64 c] 31)
  have hsz : w.heap.size < (w.alloc (.cells #[.int .i64 k, .string t, .int .i64 l, .int .i64 c] 31)).heap.size := by simp
  generalize w.alloc (.cells #[.int .i64 k, .string t, .int .i64 l, .int .i64 c] 31) = W1 at HX HS HO HBl hsz ⊢
  generalize hbx : w.heap.size = bx at HX HBl hsz ⊢
  have x0 := (blk_cell HX 0).trans rfl
  have x1 := (blk_cell HX 1).trans rfl
  have x2 := (blk_cell HX 2).trans rfl
  have x3 := (blk_cell HX 3).trans rfl
  have x4 : W1.cell? ⟨g, 4, none⟩ = some v := (blk_cell HS 4).trans rfl
  have nbx : some bx ≠ v.ownBlock := by intro e; have := own_lt hown bx e.symm; omega
  have ng : some g ≠ v.ownBlock := own_ne HO HS (by decide)
  have hW1 : b ≤ W1.heap.size := by omega
  clear h4
  have zf : W1.frozen? ⟨g, 4, none⟩ = false := blk_frozen HS 4
  have hgW : g < W1.heap.size := by omega
  have AL : ∀ {a u o}, W1.cell? a = some u → (W1.alloc o).drew.cell? a = some u := fun {a u o} h => (World.cell?_alloc_some W1 a o (by rw [h]; rfl)).trans h
  have AF : ∀ {o}, W1.frozen? ⟨g, 4, none⟩ = false → (W1.alloc o).drew.frozen? ⟨g, 4, none⟩ = false := fun {o} _ => blk_frozen ((HS.alloc o).drew) 4
  refine start_ (n := 11) (S := fun w' => w'.cell? ⟨g, 4, none⟩ = some v ∧ w'.cell? ⟨bx, 0, none⟩ = some (.int .i64 k) ∧ w'.cell? ⟨bx, 1, none⟩ = some (.string t) ∧ w'.cell? ⟨bx, 2, none⟩ = some (.int .i64 l) ∧ w'.cell? ⟨bx, 3, none⟩ = some (.int .i64 c)) (ds := [10]) #[false, false, false, false, false, false, false, false, false, false, false] (by kernel_rfl) rfl rfl ⟨x4, x0, x1, x2, x3⟩ (fun hHeld => ?_)
  refine pure_ (i := 0) (N := some 22) (v := ?_) (a' := ?_) #[true, false, false, false, false, false, false, false, false, false, false] rfl rfl (by kernel_rfl) (fun _ _ _ h => h) (Or.inl ⟨by rfl, ?_⟩) ?_ ?_
  rotate_left
  · intro w'
    go_simp
    with_reducible rfl
  rotate_left
  · simp only [Act.put, List.setIfInBounds_toArray, List.set_cons_zero, List.set_cons_succ, i64_w, i32_w]
    rfl
  refine pure_ (i := 1) (N := some 23) (v := ?_) (a' := ?_) #[true, true, false, false, false, false, false, false, false, false, false] rfl rfl (by kernel_rfl) (fun _ _ _ h => h) (Or.inl ⟨by rfl, ?_⟩) ?_ ?_
  rotate_left
  · intro w'
    go_simp
    with_reducible rfl
  rotate_left
  · simp only [Act.put, List.setIfInBounds_toArray, List.set_cons_zero, List.set_cons_succ, i64_w, i32_w]
    rfl
  refine pure_ (i := 2) (N := some 24) (v := ?_) (a' := ?_) #[true, true, true, false, false, false, false, false, false, false, false] rfl rfl (by kernel_rfl) (fun _ _ _ h => h) (Or.inl ⟨by rfl, ?_⟩) ?_ ?_
  rotate_left
  · intro w'
    go_simp
    with_reducible rfl
  rotate_left
  · simp only [Act.put, List.setIfInBounds_toArray, List.set_cons_zero, List.set_cons_succ, i64_w, i32_w]
    rfl
  refine pure_ (i := 3) (N := some 25) (v := ?_) (a' := ?_) #[true, true, true, true, false, false, false, false, false, false, false] rfl rfl (by kernel_rfl) (fun _ _ _ h => h) (Or.inl ⟨by rfl, ?_⟩) ?_ ?_
  rotate_left
  · intro w'
    go_simp
    with_reducible rfl
  rotate_left
  · simp only [Act.put, List.setIfInBounds_toArray, List.set_cons_zero, List.set_cons_succ, i64_w, i32_w]
    rfl
  refine take_ (i := 4) (N := some 26) (v := ?_) (a' := ?_) #[true, true, true, true, true, false, false, false, false, false, false] rfl rfl (by kernel_rfl) (fun _ _ _ h => h) (Or.inl ⟨by rfl, ?_⟩) hHeld ?_ ?_
  rotate_left
  · rintro w' ⟨s0, s1, s2, s3, s4⟩
    go_simp
    with_reducible rfl
  rotate_left
  · simp only [Act.put, List.setIfInBounds_toArray, List.set_cons_zero, List.set_cons_succ, i64_w, i32_w]
    rfl
  refine take_ (i := 5) (N := some 27) (v := ?_) (a' := ?_) #[true, true, true, true, true, true, false, false, false, false, false] rfl rfl (by kernel_rfl) (fun _ _ _ h => h) (Or.inl ⟨by rfl, ?_⟩) hHeld ?_ ?_
  rotate_left
  · rintro w' ⟨s0, s1, s2, s3, s4⟩
    go_simp
    with_reducible rfl
  rotate_left
  · simp only [Act.put, List.setIfInBounds_toArray, List.set_cons_zero, List.set_cons_succ, i64_w, i32_w]
    rfl
  refine one_ (i := 6) (N := some 28) #[true, true, true, true, true, true, true, false, false, false, false] rfl rfl (by kernel_rfl) (by decide) (fun K hK => ?_)
  refine value_ (w1 := ?_) (v := ?_) (by rfl) rfl ?_ ?_
  rotate_left 2
  · go_simp
    constructor
    · rfl
    · rfl
  refine hK.out _ _ ⟨(AL x4), (AL x0), (AL x1), (AL x2), (AL x3)⟩ (fun hHeld => ?_)
  clear hK K
  refine norm_ (a' := ?_) ?_ ?_
  rotate_left
  · show Act.put _ (some 28) _ = _
    simp only [Act.put, List.setIfInBounds_toArray, List.set_cons_zero, List.set_cons_succ, i64_w, i32_w]
    rfl
  refine one_ (i := 7) (N := some 29) #[true, true, true, true, true, true, true, true, false, false, false] rfl rfl (by kernel_rfl) (by decide) (fun K hK => ?_)
  refine step_append_lies _ (by rfl) _ _ _ (by rfl) b 31 i0 _ 4 40 Try.underlying24 hi0 hz0 hz1 hz2 rfl (by omega) v n xs (by rfl) ((HO.alloc _).drew) ⟨W1.heap.size, 0, none⟩ 1 1 [.int .i64 k, .string t, .int .i64 l, .int .i64 c] (by rfl) (by rfl) (World.news_of_block (cs := #[.int .i64 k, .string t, .int .i64 l, .int .i64 c]) (t := 31) (fr := (0, 0)) (heap_alloc_new W1 _)) (by simp [Value.oneCell']) (by omega) (by unfold maxLen; omega) (by omega) (by simp; omega) (W1.heap.size + 1) (by simp) ?_
  intro gg cap w1 hown1 hgrow hat hlt1
  have kf : ∀ a u, a.block < W1.heap.size → some a.block ≠ v.ownBlock → W1.cell? a = some u → w1.cell? a = some u := fun a u h1 h2 h3 => (hgrow.cell_far a (by simp; omega) h2).trans (AL h3)
  refine hK.out _ _ ⟨(kf _ _ hgW ng x4), (kf _ _ hsz nbx x0), (kf _ _ hsz nbx x1), (kf _ _ hsz nbx x2), (kf _ _ hsz nbx x3)⟩ (fun hHeld => ?_)
  clear hK K
  refine norm_ (a' := ?_) ?_ ?_
  rotate_left
  · show Act.put _ (some 29) _ = _
    simp only [Act.put, List.setIfInBounds_toArray, List.set_cons_zero, List.set_cons_succ, i64_w, i32_w]
    rfl
  refine pure_ (i := 8) (N := some 30) (v := ?_) (a' := ?_) #[true, true, true, true, true, true, true, true, true, false, false] rfl rfl (by kernel_rfl) (fun _ _ _ h => h) (Or.inl ⟨by rfl, ?_⟩) ?_ ?_
  rotate_left
  · intro w'
    go_simp
    with_reducible rfl
  rotate_left
  · simp only [Act.put, List.setIfInBounds_toArray, List.set_cons_zero, List.set_cons_succ, i64_w, i32_w]
    rfl
  refine pure_ (i := 9) (N := some 31) (v := ?_) (a' := ?_) #[true, true, true, true, true, true, true, true, true, true, false] rfl rfl (by kernel_rfl) (fun _ _ _ h => h) (Or.inl ⟨by rfl, ?_⟩) ?_ ?_
  rotate_left
  · intro w'
    go_simp
    with_reducible rfl
  rotate_left
  · simp only [Act.put, List.setIfInBounds_toArray, List.set_cons_zero, List.set_cons_succ, i64_w, i32_w]
    rfl
  refine last_ (i := 10) (N := none) #[true, true, true, true, true, true, true, true, true, true, true] rfl rfl (by kernel_rfl) (by decide) (fun K hK => ?_)
  have z4 : w1.frozen? ⟨g, 4, none⟩ = false := (hgrow.frozen_far ⟨g, 4, none⟩ (by simp; omega) ng).trans (AF zf)
  have y4 := kf ⟨g, 4, none⟩ _ hgW ng x4
  refine skip_ (w1 := ?_) (by rfl) rfl ?_ ?_
  rotate_left
  · go_simp
    rfl
  refine hK.out _ _ ?_
  clear hK K
  refine done_ (by kernel_rfl) ?_
  go_wp2
  go_ret
  exact append_close hlt hge (HBl.mono (by omega)) HS HO hgrow hown1 ng rfl
end Go.Proofs.Ytohbjgckcbdegaa.Lw
