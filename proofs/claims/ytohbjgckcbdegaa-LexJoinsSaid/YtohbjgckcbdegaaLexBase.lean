/- The scanner's block in memory, places in a text: plain lemmas under the walks of package lex. -/
import Derived.Test.YtohbjgckcbdegaaProg
import Derived.Test.YtohbjgckcbdegaaWMore
import Derived.Test.YtohbjgckcbdegaaLexSpec
set_option linter.unusedVariables false
set_option linter.unusedSimpArgs false
namespace Go.Proofs.Ytohbjgckcbdegaa.Lw
open Go.RowKit Go.Proofs.YtohbjgckcbdegaaW.PrintWords Go.Proofs.YtohbjgckcbdegaaW.PrintLast Go.Proofs.YtohbjgckcbdegaaW.PrintMore Go.Proofs.Ytohbjgckcbdegaa

theorem grown_set {w w' : World} {g : Nat} (h : w.grownBy w' (some g)) (j : Nat) (u : Value) : w.grownBy (w'.setCell ⟨g, j, none⟩ u) (some g) :=
  ⟨h.os, h.tape, h.output, by simpa [World.setCell] using h.size, fun i hi hne => (Below.heap_setCell w' ⟨g, j, none⟩ u i (fun e => hne (by rw [e]))).trans (h.block i hi hne)⟩
theorem grown_refl (w : World) (row : Option Nat) : w.grownBy w row := ⟨rfl, rfl, rfl, Nat.le_refl _, fun _ _ _ => rfl⟩
theorem grown_drewN {w w' : World} {row : Option Nat} (h : w.grownBy w' row) (n : Nat) : w.grownBy (w'.drewN n) row := ⟨h.os, h.tape, h.output, h.size, h.block⟩
theorem grown_drew {w w' : World} {row : Option Nat} (h : w.grownBy w' row) : w.grownBy w'.drew row := ⟨h.os, h.tape, h.output, h.size, h.block⟩
theorem grown_alloc {w w' : World} {row : Option Nat} (h : w.grownBy w' row) (o : Obj) : w.grownBy (w'.alloc o) row := h.trans (World.grownBy_alloc w' o row)
theorem grown_some {w w' : World} (h : w.grownBy w' none) (row : Option Nat) : w.grownBy w' row := ⟨h.os, h.tape, h.output, h.size, fun i hi _ => h.block i hi (by simp)⟩
theorem grown_from {w w' : World} {row : Option Nat} (h : w.drew.grownBy w' row) : w.grownBy w' row := ⟨h.os, h.tape, h.output, h.size, h.block⟩
/-- A store into a block that is new. -/
theorem grown_setNew {w w' : World} {row : Option Nat} (h : w.grownBy w' row) {p : Addr} (hp : w.heap.size ≤ p.block) (u : Value) : w.grownBy (w'.setCell p u) row :=
  ⟨h.os, h.tape, h.output, by simpa [World.setCell] using h.size, fun i hi hne => (Below.heap_setCell w' p u i (by omega)).trans (h.block i hi hne)⟩
theorem below_of_grown {w w' : World} (h : w.grownBy w' none) : Below w.heap.size w w' := ⟨h.os, h.tape, h.output, h.size, fun i hi => h.block i hi (by simp)⟩
theorem below_grown {b : Nat} {w w' : World} {g : Nat} (h : w.grownBy w' (some g)) (hb : b ≤ g) (hs : g < w.heap.size) : Below b w w' := ⟨h.os, h.tape, h.output, h.size, fun i hi => h.block i (by omega) (by simp; omega)⟩

/-- The scanner's block. -/
def Scn (w : World) (g : Nat) (s : ByteArray) (a line col : Int) (v : Value) (f5 f6 f7 : Int) : Prop :=
  w.heap[g]? = some (.cells #[.string s, .int .i64 a, .int .i64 line, .int .i64 col, v, .int .i64 f5, .int .i64 f6, .int .i64 f7] 47 (0, 0))
theorem Scn.lt {w : World} {g : Nat} {s : ByteArray} {a line col : Int} {v : Value} {f5 f6 f7 : Int} (h : Scn w g s a line col v f5 f6 f7) : g < w.heap.size := blk_lt h

/-- What is left of a text. -/
def suf (s : ByteArray) (a : Int) : List UInt8 := s.data.toList.drop a.toNat
/-- Where a scanner may be. -/
structure At (s : ByteArray) (a line col : Int) : Prop where
  a0 : 0 ≤ a
  a1 : a ≤ s.size
  l0 : 1 ≤ line
  c0 : 1 ≤ col
  sum : line + col ≤ a + 2
  big : s.size ≤ 65536

theorem suf_nil {s : ByteArray} {a : Int} (h : (s.size : Int) ≤ a) : suf s a = [] := by
  unfold suf
  exact List.drop_eq_nil_of_le (by rw [Array.length_toList]; show s.size ≤ _; omega)
theorem suf_cons {s : ByteArray} {a : Int} (h0 : 0 ≤ a) (h1 : a < s.size) : ∃ c, suf s a = c :: suf s (a + 1) ∧ bt s a = c.toNat := by
  have hl : a.toNat < s.data.toList.length := by rw [Array.length_toList]; show _ < s.size; omega
  refine ⟨s.data.toList[a.toNat], ?_, ?_⟩
  · unfold suf
    rw [List.drop_eq_getElem_cons hl, show (a + 1).toNat = a.toNat + 1 by omega]
  · unfold bt
    rw [dif_pos (show a.toNat < s.size by omega)]
    rfl
theorem suf_length (s : ByteArray) (a : Int) : (suf s a).length = s.size - a.toNat := by
  unfold suf
  rw [List.length_drop, Array.length_toList]
  rfl
theorem suf_cut {s : ByteArray} {a b : Int} (h0 : 0 ≤ a) (h1 : a ≤ b) (h2 : b ≤ s.size) : (s.extract a.toNat b.toNat).data.toList ++ suf s b = suf s a := by
  have e : (s.extract a.toNat b.toNat).data.toList = (s.data.toList.take b.toNat).drop a.toNat := by
    simp [List.drop_take, Array.toList_extract]
  rw [e]
  unfold suf
  have e2 : s.data.toList.drop b.toNat = (s.data.toList.drop a.toNat).drop (b.toNat - a.toNat) := by rw [List.drop_drop]; congr 1; omega
  rw [e2, List.drop_take, List.take_append_drop]
theorem At.step {s : ByteArray} {a line col : Int} (h : At s a line col) (h1 : a < s.size) (c : UInt8) : At s (a + 1) (Lx.adv c (line, col)).1 (Lx.adv c (line, col)).2 := by
  obtain ⟨q0, q1, q2, q3, q4, q5⟩ := h
  unfold Lx.adv
  split <;> exact ⟨by omega, by omega, by dsimp only; omega, by dsimp only; omega, by dsimp only; omega, q5⟩
/-- A struct of four stored into a block. -/
theorem box_store {w : World} {q T : Nat} {x0 x1 x2 x3 : Value} (h : w.heap[q]? = some (.cells #[x0, x1, x2, x3] T (0, 0))) (y0 y1 y2 y3 : Value) :
    ((((w.setCell ⟨q, 0, none⟩ y0).setCell ⟨q, 1, none⟩ y1).setCell ⟨q, 2, none⟩ y2).setCell ⟨q, 3, none⟩ y3).heap[q]? = some (.cells #[y0, y1, y2, y3] T (0, 0)) := by
  have := blk_set (blk_set (blk_set (blk_set h 0 y0) 1 y1) 2 y2) 3 y3
  simpa using this
theorem Scn.alloc {w : World} {g : Nat} {s : ByteArray} {a line col : Int} {v : Value} {f5 f6 f7 : Int} (h : Scn w g s a line col v f5 f6 f7) (o : Obj) : Scn (w.alloc o) g s a line col v f5 f6 f7 := blk_alloc h o
theorem Scn.drew {w : World} {g : Nat} {s : ByteArray} {a line col : Int} {v : Value} {f5 f6 f7 : Int} (h : Scn w g s a line col v f5 f6 f7) : Scn w.drew g s a line col v f5 f6 f7 := h
theorem Scn.grown {w w' : World} {g : Nat} {s : ByteArray} {a line col : Int} {v : Value} {f5 f6 f7 : Int} (h : Scn w g s a line col v f5 f6 f7) {row : Option Nat} (hg : w.grownBy w' row) (hne : some g ≠ row) : Scn w' g s a line col v f5 f6 f7 := blk_grown h hg hne
theorem Scn.drewN {w : World} {g : Nat} {s : ByteArray} {a line col : Int} {v : Value} {f5 f6 f7 : Int} (h : Scn w g s a line col v f5 f6 f7) (n : Nat) : Scn (w.drewN n) g s a line col v f5 f6 f7 := h
theorem quiet_any {P : Program} {f : FuncId} {args : Array Value} {w : World} {n : Nat} {v : Value}
    (h : Calls P f args (w.drewN n) fun e w' => e = .returned v ∧ ∃ m, (w.drewN n).drewN m = w') : Calls P f args (w.drewN n) fun e w'' => e = .returned v ∧ ∃ m, w'' = w.drewN m :=
  h.mono fun _ _ ⟨he, m, hm⟩ => ⟨he, n + m, by rw [← hm, World.drewN_drewN]⟩
end Go.Proofs.Ytohbjgckcbdegaa.Lw
