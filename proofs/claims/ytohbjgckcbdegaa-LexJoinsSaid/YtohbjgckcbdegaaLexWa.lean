/- The walks of package lex: more, step, here, fail. -/
import Derived.Test.YtohbjgckcbdegaaLexBase
set_option linter.unusedVariables false
set_option linter.unusedSimpArgs false
namespace Go.Proofs.Ytohbjgckcbdegaa.Lw
open Go.RowKit Go.Proofs.YtohbjgckcbdegaaW.PrintWords Go.Proofs.YtohbjgckcbdegaaW.PrintLast Go.Proofs.YtohbjgckcbdegaaW.PrintMore Go.Proofs.Ytohbjgckcbdegaa

set_option maxHeartbeats 4000000 in
set_option maxRecDepth 100000 in
theorem more_calls {g : Nat} {s : ByteArray} {a line col : Int} {v : Value} {f5 f6 f7 : Int} {w : World} (hb : Scn w g s a line col v f5 f6 f7) :
    Calls Try.prog 18 #[.pointer (some ⟨g, 0, none⟩)] w fun e w' => e = .returned (.bool (decide (a < (s.size : Int)))) ∧ ∃ n, w.drewN n = w' := by
  have h0 := (blk_cell hb 0).trans rfl
  have h1 := (blk_cell hb 1).trans rfl
  clear hb
  go_enter Try.func18, Try.ntmps18
  go_wp2
  repeat (go_quiet (fail); try go_wp2)
  go_ret
  exact ⟨rfl, _, rfl⟩

theorem more_yes {g : Nat} {s : ByteArray} {a line col : Int} {v : Value} {f5 f6 f7 : Int} {w : World} (hb : Scn w g s a line col v f5 f6 f7) (h : a < (s.size : Int)) :
    Calls Try.prog 18 #[.pointer (some ⟨g, 0, none⟩)] w fun e w' => e = .returned (.bool true) ∧ ∃ n, w.drewN n = w' :=
  (more_calls hb).mono fun _ _ hh => ⟨by rw [hh.1, decide_eq_true h], hh.2⟩
theorem more_no {g : Nat} {s : ByteArray} {a line col : Int} {v : Value} {f5 f6 f7 : Int} {w : World} (hb : Scn w g s a line col v f5 f6 f7) (h : (s.size : Int) ≤ a) :
    Calls Try.prog 18 #[.pointer (some ⟨g, 0, none⟩)] w fun e w' => e = .returned (.bool false) ∧ ∃ n, w.drewN n = w' :=
  (more_calls hb).mono fun _ _ hh => ⟨by rw [hh.1, decide_eq_false (by omega)], hh.2⟩

set_option maxHeartbeats 4000000 in
set_option maxRecDepth 100000 in
theorem step_calls {g : Nat} {s : ByteArray} {a line col : Int} {v : Value} {f5 f6 f7 : Int} {w : World} (hb : Scn w g s a line col v f5 f6 f7)
    (hA : At s a line col) (hlt : a < (s.size : Int)) (c : UInt8) (hc : bt s a = c.toNat) :
    Calls Try.prog 29 #[.pointer (some ⟨g, 0, none⟩)] w fun e w' => e = .returned (.tuple #[]) ∧ Scn w' g s (a + 1) (Lx.adv c (line, col)).1 (Lx.adv c (line, col)).2 v f5 f6 f7 ∧ w.grownBy w' (some g) := by
  obtain ⟨q0, q1, q2, q3, q4, q5⟩ := hA
  have HB := Aside0.mk hb
  have h0 := (blk_cell hb 0).trans rfl
  have h1 := (blk_cell hb 1).trans rfl
  have h2 := (blk_cell hb 2).trans rfl
  have h3 := (blk_cell hb 3).trans rfl
  have z1 := blk_frozen hb 1
  have z2 := blk_frozen hb 2
  have z3 := blk_frozen hb 3
  clear hb
  have HC := Aside0.mk hc
  have hx4 := bt_at s a
  by_cases h : bt s a = 10
  · have c5b0 : ((bt s a) == 10) = true := beq_iff_eq.mpr h
    have HH := Aside0.mk h
    clear h hc
    go_enter Try.func29, Try.ntmps29
    go_wp2
    repeat (go_quiet (fail); try go_wp2)
    go_end0
    have e : Lx.adv c (line, col) = (line + 1, 1) := by unfold Lx.adv; rw [if_pos (by have := HC.out; have := HH.out; omega)]
    rw [e]
    refine ⟨rfl, ?_, grown_set (grown_set (grown_set (grown_set (grown_drewN (grown_refl _ _) _) _ _) _ _) _ _) _ _⟩
    have := blk_set (blk_set (blk_set (blk_set (blk_drewN HB.out nq) 2 (.int .i64 (line + 1))) 3 (.int .i64 0)) 1 (.int .i64 (a + 1))) 3 (.int .i64 1)
    unfold Scn
    simpa using this
  · have c5b0 : ((bt s a) == 10) = false := beq_eq_false_iff_ne.mpr h
    have HH := Aside0.mk h
    clear h hc
    go_enter Try.func29, Try.ntmps29
    go_wp2
    repeat (go_quiet (fail); try go_wp2)
    go_end0
    have e : Lx.adv c (line, col) = (line, col + 1) := by unfold Lx.adv; rw [if_neg (by have := HC.out; have := HH.out; omega)]
    rw [e]
    refine ⟨rfl, ?_, grown_set (grown_set (grown_drewN (grown_refl _ _) _) _ _) _ _⟩
    have := blk_set (blk_set (blk_drewN HB.out nq) 1 (.int .i64 (a + 1))) 3 (.int .i64 (col + 1))
    unfold Scn
    simpa using this

set_option maxHeartbeats 4000000 in
set_option maxRecDepth 100000 in
theorem here_calls {g : Nat} {s : ByteArray} {a line col : Int} {v : Value} {f5 f6 f7 : Int} {w : World} (hb : Scn w g s a line col v f5 f6 f7) (k : Int) :
    Calls Try.prog 20 #[.pointer (some ⟨g, 0, none⟩), .int .i64 k] w fun e w' => e = .returned (.agg #[.int .i64 k, .string ⟨#[]⟩, .int .i64 line, .int .i64 col]) ∧ w.grownBy w' none := by
  have HL := Aside0.mk hb.lt
  have h2 := fun o => (blk_cell (blk_alloc hb o) 2).trans rfl
  have h3 := fun o => (blk_cell (blk_alloc hb o) 3).trans rfl
  clear hb
  go_enter Try.func20, Try.ntmps20
  go_wp2
  go_region
  go_wp2
  refine bodyPost_ret (v := .agg #[.int .i64 k, .string ⟨#[]⟩, .int .i64 line, .int .i64 col]) (by simp [results, Try.results20, go_sem]) rfl ⟨rfl, grown_drew (grown_alloc (grown_refl _ _) _)⟩

set_option maxHeartbeats 4000000 in
set_option maxRecDepth 100000 in
theorem fail_calls {g : Nat} {s : ByteArray} {a line col : Int} {v : Value} {f5 f6 f7 : Int} {w : World} (hb : Scn w g s a line col v f5 f6 f7) (k l c e : Int) (t : ByteArray) :
    Calls Try.prog 33 #[.pointer (some ⟨g, 0, none⟩), .agg #[.int .i64 k, .string t, .int .i64 l, .int .i64 c], .int .i64 e] w fun x w' => x = .returned (.bool false) ∧ Scn w' g s a line col v l c e ∧ w.grownBy w' (some g) := by
  have HB := Aside0.mk hb
  have HL := Aside0.mk hb.lt
  have z5 := fun o => blk_frozen (blk_alloc hb o) 5
  have z6 := fun o => blk_frozen (blk_alloc hb o) 6
  have z7 := fun o => blk_frozen (blk_alloc hb o) 7
  have h5 := fun o => (blk_cell (blk_alloc hb o) 5).trans rfl
  have h6 := fun o => (blk_cell (blk_alloc hb o) 6).trans rfl
  have h7 := fun o => (blk_cell (blk_alloc hb o) 7).trans rfl
  clear hb
  go_enter Try.func33, Try.ntmps33
  go_wp2
  go_ret
  refine ⟨rfl, ?_, grown_set (grown_set (grown_set (grown_alloc (grown_refl _ _) _) _ _) _ _) _ _⟩
  have := blk_set (blk_set (blk_set (blk_alloc HB.out (.cells #[.int .i64 k, .string t, .int .i64 l, .int .i64 c] 31)) 5 (.int .i64 l)) 6 (.int .i64 c)) 7 (.int .i64 e)
  unfold Scn
  simpa using this
theorem here_scn {g : Nat} {s : ByteArray} {a line col : Int} {v : Value} {f5 f6 f7 : Int} {w : World} (hb : Scn w g s a line col v f5 f6 f7) (k : Int) :
    Calls Try.prog 20 #[.pointer (some ⟨g, 0, none⟩), .int .i64 k] w fun e w' => e = .returned (.agg #[.int .i64 k, .string ⟨#[]⟩, .int .i64 line, .int .i64 col]) ∧ w.grownBy w' none ∧ Scn w' g s a line col v f5 f6 f7 :=
  (here_calls hb k).mono fun _ _ h => ⟨h.1, h.2, hb.grown h.2 (by simp)⟩
end Go.Proofs.Ytohbjgckcbdegaa.Lw
