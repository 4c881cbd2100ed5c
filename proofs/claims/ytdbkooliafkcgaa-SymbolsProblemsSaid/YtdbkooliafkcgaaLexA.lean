/- What lex.Scan computes, in plain Lean over lists of bytes: no program in sight. Plain laws of the scanner's parts. The scanner's block in memory, places in a text: plain lemmas under the walks of package lex. The walks of package lex: more, step, here, fail. The walk of package lex: skip. The walks of package lex: ended, name. The walks of package lex: letter, inName. The walk of package lex: name. -/
import Derived.Test.YtdbkooliafkcgaaProg
import Derived.Test.YtdbkooliafkcgaaGates
import Derived.Test.YtdbkooliafkcgaaWWords
import Derived.Test.YtdbkooliafkcgaaWLast
import Derived.Deep.RegionHeld3
import Derived.Deep.AppendLies
import Derived.Deep.DeepCutAuto
namespace Go.Proofs.Ytdbkooliafkcgaa.Lx

/-- The place behind a byte. -/
def adv (c : UInt8) (p : Int × Int) : Int × Int := if c.toNat = 10 then (p.1 + 1, 1) else (p.1, p.2 + 1)

def letter (c : UInt8) : Bool := (decide (97 ≤ c.toNat) && decide (c.toNat ≤ 122)) || (decide (65 ≤ c.toNat) && decide (c.toNat ≤ 90))
def inName (c : UInt8) : Bool := letter c || (decide (48 ≤ c.toNat) && decide (c.toNat ≤ 57)) || (c.toNat == 95) || (c.toNat == 45)
def blank (c : UInt8) : Bool := (c.toNat == 32) || (c.toNat == 9) || (c.toNat == 10) || (c.toNat == 13)
def isSign (c : UInt8) : Bool := c ∈ [58, 124, 59, 40, 41, 91, 93, 123, 125, 42, 43, 63, 37]
/-- A hexadecimal digit's number. -/
def hexv (c : UInt8) : Option Nat :=
  if 48 ≤ c.toNat ∧ c.toNat ≤ 57 then some (c.toNat - 48) else if 97 ≤ c.toNat ∧ c.toNat ≤ 102 then some (c.toNat - 87) else none

/-- Blanks and comments skipped; in a comment, if the Bool says so. -/
def skip : Bool → List UInt8 → Int × Int → List UInt8 × (Int × Int)
  | _, [], p => ([], p)
  | true, c :: cs, p => if c.toNat = 10 then skip false cs (adv c p) else skip true cs (adv c p)
  | false, c :: cs, p => if c.toNat = 35 then skip true cs (adv c p) else if blank c then skip false cs (adv c p) else (c :: cs, p)

/-- A name's bytes, what is behind, the place there. -/
def nameL : List UInt8 → Int × Int → List UInt8 × List UInt8 × (Int × Int)
  | [], p => ([], [], p)
  | c :: cs, p => if inName c then ((c :: (nameL cs (adv c p)).1), (nameL cs (adv c p)).2) else ([], c :: cs, p)

/-- What stands behind a backslash: the byte, what is behind, the place; or the place where it is wrong. -/
inductive Esc where
  | ok (b : UInt8) (rest : List UInt8) (p : Int × Int)
  | bad (rest : List UInt8) (p : Int × Int)

def escX : List UInt8 → Int × Int → Esc
  | [], p => .bad [] p
  | c :: cs, p => match hexv c with
    | none => .bad (c :: cs) p
    | some a => match cs with
      | [] => .bad [] (adv c p)
      | d :: ds => match hexv d with
        | none => .bad (d :: ds) (adv c p)
        | some b => .ok (UInt8.ofNat (16 * a + b)) ds (adv d (adv c p))

def esc : List UInt8 → Int × Int → Esc
  | [], p => .bad [] p
  | c :: cs, p =>
    if c.toNat = 92 ∨ c.toNat = 39 ∨ c.toNat = 34 then .ok c cs (adv c p)
    else if c.toNat = 110 then .ok 10 cs (adv c p)
    else if c.toNat = 116 then .ok 9 cs (adv c p)
    else if c.toNat = 120 then escX cs (adv c p)
    else .bad (c :: cs) p

/-- A literal behind its quote: its bytes, what is behind its end, the place; or the place where it is wrong. n: rounds. -/
def lit (q : UInt8) : Nat → List UInt8 → Int × Int → List UInt8 → Option (List UInt8 × List UInt8) × (Int × Int)
  | 0, _, p, _ => (none, p)
  | _ + 1, [], p, _ => (none, p)
  | n + 1, c :: cs, p, out =>
    if c = q then (some (out, cs), adv c p)
    else if c.toNat = 92 then
      match esc cs (adv c p) with
      | .ok b rest p' => lit q n rest p' (out ++ [b])
      | .bad _ p' => (none, p')
    else if c.toNat < 32 ∨ 126 < c.toNat then (none, p)
    else lit q n cs (adv c p) (out ++ [c])

structure Tok where
  kind : Int
  text : List UInt8
  p : Int × Int
deriving DecidableEq

structure Flt where
  p : Int × Int
  code : Int
deriving DecidableEq

/-- The token that begins with c, what is behind, the place there; or the fault. -/
def token (c : UInt8) (cs : List UInt8) (p : Int × Int) : Except Flt (Tok × List UInt8 × (Int × Int)) :=
  if letter c then
    if (nameL (c :: cs) p).1.length > 32 then .error ⟨p, 6⟩ else .ok (⟨1, (nameL (c :: cs) p).1, p⟩, (nameL (c :: cs) p).2)
  else if c.toNat = 39 ∨ c.toNat = 34 then
    match lit c (cs.length + 1) cs (adv c p) [] with
    | (none, p') => .error ⟨p', 2⟩
    | (some (t, rest), p') => if t = [] then .error ⟨p, 2⟩ else if t.length > 16 then .error ⟨p, 6⟩ else .ok (⟨2, t, p⟩, rest, p')
  else if isSign c then .ok (⟨3, [c], p⟩, cs, adv c p)
  else .error ⟨p, 2⟩

/-- All tokens from a place on. n: rounds. -/
def scanF : Nat → List UInt8 → Int × Int → List Tok → Except Flt (List Tok)
  | 0, _, p, _ => .error ⟨p, 0⟩
  | n + 1, l, p, acc =>
    match skip false l p with
    | ([], p') => .ok (acc ++ [⟨4, [], p'⟩])
    | (c :: cs, p') => match token c cs p' with
      | .error f => .error f
      | .ok (t, rest, p'') => scanF n rest p'' (acc ++ [t])

/-- lex.Scan. -/
def scan (s : List UInt8) : Except Flt (List Tok) :=
  if s.length > 65536 then .error ⟨(0, 0), 6⟩ else scanF (s.length + 1) s (1, 1) []

end Go.Proofs.Ytdbkooliafkcgaa.Lx

namespace Go.Proofs.Ytdbkooliafkcgaa.Lx

theorem letter_inName {c : UInt8} (h : letter c = true) : inName c = true := by simp [inName, h]
theorem nameL_len (l : List UInt8) (p : Int × Int) : (nameL l p).2.1.length ≤ l.length := by
  induction l generalizing p with
  | nil => simp [nameL]
  | cons c cs ih =>
    unfold nameL
    split
    · have := ih (adv c p); simp; omega
    · simp
theorem nameL_len_lt {c : UInt8} {cs : List UInt8} {p : Int × Int} (h : inName c = true) : (nameL (c :: cs) p).2.1.length ≤ cs.length := by
  unfold nameL
  rw [if_pos h]
  exact nameL_len cs (adv c p)
theorem escX_len {l : List UInt8} {p : Int × Int} {b : UInt8} {rest : List UInt8} {p' : Int × Int} (h : escX l p = .ok b rest p') : rest.length ≤ l.length := by
  unfold escX at h
  cases l with
  | nil => cases h
  | cons c cs =>
    simp only at h
    split at h
    · cases h
    · cases cs with
      | nil => cases h
      | cons d ds =>
        simp only at h
        split at h
        · cases h
        · injection h with h1 h2 h3; subst h2; simp; omega
theorem esc_len {l : List UInt8} {p : Int × Int} {b : UInt8} {rest : List UInt8} {p' : Int × Int} (h : esc l p = .ok b rest p') : rest.length ≤ l.length := by
  unfold esc at h
  cases l with
  | nil => cases h
  | cons c cs =>
    simp only at h
    split at h
    · injection h with h1 h2 h3; subst h2; simp
    · split at h
      · injection h with h1 h2 h3; subst h2; simp
      · split at h
        · injection h with h1 h2 h3; subst h2; simp
        · split at h
          · have := escX_len h; simp; omega
          · cases h
theorem lit_len {q : UInt8} {n : Nat} {l : List UInt8} {p : Int × Int} {out t rest : List UInt8} {p' : Int × Int} (h : lit q n l p out = (some (t, rest), p')) : rest.length ≤ l.length := by
  induction n generalizing l p out with
  | zero => simp [lit] at h
  | succ n ih =>
    cases l with
    | nil => simp [lit] at h
    | cons c cs =>
      simp only [lit] at h
      split at h
      · injection h with h1 h2; injection h1 with h1; injection h1 with h1 h3; subst h3; simp
      · split at h
        · split at h
          · rename_i b r p2 he
            have := ih h; have := esc_len he; simp; omega
          · injection h with h1 h2; cases h1
        · split at h
          · injection h with h1 h2; cases h1
          · have := ih h; simp; omega
theorem token_len {c : UInt8} {cs : List UInt8} {p : Int × Int} {t : Tok} {rest : List UInt8} {p' : Int × Int} (h : token c cs p = .ok (t, rest, p')) : rest.length ≤ cs.length := by
  unfold token at h
  split at h
  · rename_i hl
    split at h
    · cases h
    · injection h with h; injection h with h1 h2
      have e : (nameL (c :: cs) p).2.1 = rest := by rw [h2]
      rw [← e]
      exact nameL_len_lt (letter_inName hl)
  · split at h
    · split at h
      · cases h
      · rename_i hlit
        split at h
        · cases h
        · split at h
          · cases h
          · injection h with h; injection h with h1 h2; injection h2 with h2 h3
            subst h2
            exact lit_len hlit
    · split at h
      · injection h with h; injection h with h1 h2; injection h2 with h2 h3; subst h2; exact Nat.le_refl _
      · cases h
end Go.Proofs.Ytdbkooliafkcgaa.Lx

set_option linter.unusedVariables false
set_option linter.unusedSimpArgs false
namespace Go.Proofs.Ytdbkooliafkcgaa.Lw
open Go.RowKit Go.Proofs.YtdbkooliafkcgaaW.PrintWords Go.Proofs.YtdbkooliafkcgaaW.PrintLast Go.Proofs.YtdbkooliafkcgaaW.PrintMore Go.Proofs.Ytdbkooliafkcgaa

theorem grown_set {w w' : World} {g : Nat} (h : w.grownBy w' (some g)) (j : Nat) (u : Value) : w.grownBy (w'.setCell ⟨g, j, none⟩ u) (some g) :=
  ⟨h.os, h.tape, h.output, by simpa [World.setCell] using h.size, fun i hi hne => (Below.heap_setCell w' ⟨g, j, none⟩ u i (fun e => hne (by rw [e]))).trans (h.block i hi hne)⟩
theorem grown_refl (w : World) (row : Option Nat) : w.grownBy w row := ⟨rfl, rfl, rfl, Nat.le_refl _, fun _ _ _ => rfl⟩
theorem grown_drewN {w w' : World} {row : Option Nat} (h : w.grownBy w' row) (n : Nat) : w.grownBy (w'.drewN n) row := ⟨h.os, h.tape, h.output, h.size, h.block⟩
theorem grown_drew {w w' : World} {row : Option Nat} (h : w.grownBy w' row) : w.grownBy w'.drew row := ⟨h.os, h.tape, h.output, h.size, h.block⟩
theorem grown_alloc {w w' : World} {row : Option Nat} (h : w.grownBy w' row) (o : Obj) : w.grownBy (w'.alloc o) row := h.trans (World.grownBy_alloc w' o row)
theorem grown_some {w w' : World} (h : w.grownBy w' none) (row : Option Nat) : w.grownBy w' row := ⟨h.os, h.tape, h.output, h.size, fun i hi _ => h.block i hi (by simp)⟩
theorem grown_from {w w' : World} {row : Option Nat} (h : w.drew.grownBy w' row) : w.grownBy w' row := ⟨h.os, h.tape, h.output, h.size, h.block⟩
/-- A store into a block that is new. -/
theorem grown_setNew {w w' : World} {row : Option Nat} (h : w.grownBy w' row) {p : Addr} (hp : w.heap.size ≤ p.block) (u : Value) : w.grownBy (w'.setCell p u) row :=
  ⟨h.os, h.tape, h.output, by simpa [World.setCell] using h.size, fun i hi hne => (Below.heap_setCell w' p u i (by omega)).trans (h.block i hi hne)⟩
theorem below_of_grown {w w' : World} (h : w.grownBy w' none) : Below w.heap.size w w' := ⟨h.os, h.tape, h.output, h.size, fun i hi => h.block i hi (by simp)⟩
theorem below_grown {b : Nat} {w w' : World} {g : Nat} (h : w.grownBy w' (some g)) (hb : b ≤ g) (hs : g < w.heap.size) : Below b w w' := ⟨h.os, h.tape, h.output, h.size, fun i hi => h.block i (by omega) (by simp; omega)⟩

/-- The scanner's block. -/
def Scn (w : World) (g : Nat) (s : ByteArray) (a line col : Int) (v : Value) (f5 f6 f7 : Int) : Prop :=
  w.heap[g]? = some (.cells #[.string s, .int .i64 a, .int .i64 line, .int .i64 col, v, .int .i64 f5, .int .i64 f6, .int .i64 f7] 92 (0, 0))
theorem Scn.lt {w : World} {g : Nat} {s : ByteArray} {a line col : Int} {v : Value} {f5 f6 f7 : Int} (h : Scn w g s a line col v f5 f6 f7) : g < w.heap.size := blk_lt h

/-- What is left of a text. -/
def suf (s : ByteArray) (a : Int) : List UInt8 := s.data.toList.drop a.toNat
/-- Where a scanner may be. -/
structure At (s : ByteArray) (a line col : Int) : Prop where
  a0 : 0 ≤ a
  a1 : a ≤ s.size
  l0 : 1 ≤ line
  c0 : 1 ≤ col
  sum : line + col ≤ a + 2
  big : s.size ≤ 65536

theorem suf_nil {s : ByteArray} {a : Int} (h : (s.size : Int) ≤ a) : suf s a = [] := by
  unfold suf
  exact List.drop_eq_nil_of_le (by rw [Array.length_toList]; show s.size ≤ _; omega)
theorem suf_cons {s : ByteArray} {a : Int} (h0 : 0 ≤ a) (h1 : a < s.size) : ∃ c, suf s a = c :: suf s (a + 1) ∧ bt s a = c.toNat := by
  have hl : a.toNat < s.data.toList.length := by rw [Array.length_toList]; show _ < s.size; omega
  refine ⟨s.data.toList[a.toNat], ?_, ?_⟩
  · unfold suf
    rw [List.drop_eq_getElem_cons hl, show (a + 1).toNat = a.toNat + 1 by omega]
  · unfold bt
    rw [dif_pos (show a.toNat < s.size by omega)]
    rfl
theorem suf_length (s : ByteArray) (a : Int) : (suf s a).length = s.size - a.toNat := by
  unfold suf
  rw [List.length_drop, Array.length_toList]
  rfl
theorem suf_cut {s : ByteArray} {a b : Int} (h0 : 0 ≤ a) (h1 : a ≤ b) (h2 : b ≤ s.size) : (s.extract a.toNat b.toNat).data.toList ++ suf s b = suf s a := by
  have e : (s.extract a.toNat b.toNat).data.toList = (s.data.toList.take b.toNat).drop a.toNat := by
    simp [List.drop_take, Array.toList_extract]
  rw [e]
  unfold suf
  have e2 : s.data.toList.drop b.toNat = (s.data.toList.drop a.toNat).drop (b.toNat - a.toNat) := by rw [List.drop_drop]; congr 1; omega
  rw [e2, List.drop_take, List.take_append_drop]
theorem At.step {s : ByteArray} {a line col : Int} (h : At s a line col) (h1 : a < s.size) (c : UInt8) : At s (a + 1) (Lx.adv c (line, col)).1 (Lx.adv c (line, col)).2 := by
  obtain ⟨q0, q1, q2, q3, q4, q5⟩ := h
  unfold Lx.adv
  split <;> exact ⟨by omega, by omega, by dsimp only; omega, by dsimp only; omega, by dsimp only; omega, q5⟩
/-- A struct of four stored into a block. -/
theorem box_store {w : World} {q T : Nat} {x0 x1 x2 x3 : Value} (h : w.heap[q]? = some (.cells #[x0, x1, x2, x3] T (0, 0))) (y0 y1 y2 y3 : Value) :
    ((((w.setCell ⟨q, 0, none⟩ y0).setCell ⟨q, 1, none⟩ y1).setCell ⟨q, 2, none⟩ y2).setCell ⟨q, 3, none⟩ y3).heap[q]? = some (.cells #[y0, y1, y2, y3] T (0, 0)) := by
  have := blk_set (blk_set (blk_set (blk_set h 0 y0) 1 y1) 2 y2) 3 y3
  simpa using this
theorem Scn.alloc {w : World} {g : Nat} {s : ByteArray} {a line col : Int} {v : Value} {f5 f6 f7 : Int} (h : Scn w g s a line col v f5 f6 f7) (o : Obj) : Scn (w.alloc o) g s a line col v f5 f6 f7 := blk_alloc h o
theorem Scn.drew {w : World} {g : Nat} {s : ByteArray} {a line col : Int} {v : Value} {f5 f6 f7 : Int} (h : Scn w g s a line col v f5 f6 f7) : Scn w.drew g s a line col v f5 f6 f7 := h
theorem Scn.grown {w w' : World} {g : Nat} {s : ByteArray} {a line col : Int} {v : Value} {f5 f6 f7 : Int} (h : Scn w g s a line col v f5 f6 f7) {row : Option Nat} (hg : w.grownBy w' row) (hne : some g ≠ row) : Scn w' g s a line col v f5 f6 f7 := blk_grown h hg hne
theorem Scn.drewN {w : World} {g : Nat} {s : ByteArray} {a line col : Int} {v : Value} {f5 f6 f7 : Int} (h : Scn w g s a line col v f5 f6 f7) (n : Nat) : Scn (w.drewN n) g s a line col v f5 f6 f7 := h
theorem quiet_any {P : Program} {f : FuncId} {args : Array Value} {w : World} {n : Nat} {v : Value}
    (h : Calls P f args (w.drewN n) fun e w' => e = .returned v ∧ ∃ m, (w.drewN n).drewN m = w') : Calls P f args (w.drewN n) fun e w'' => e = .returned v ∧ ∃ m, w'' = w.drewN m :=
  h.mono fun _ _ ⟨he, m, hm⟩ => ⟨he, n + m, by rw [← hm, World.drewN_drewN]⟩
end Go.Proofs.Ytdbkooliafkcgaa.Lw

set_option linter.unusedVariables false
set_option linter.unusedSimpArgs false
namespace Go.Proofs.Ytdbkooliafkcgaa.Lw
open Go.RowKit Go.Proofs.YtdbkooliafkcgaaW.PrintWords Go.Proofs.YtdbkooliafkcgaaW.PrintLast Go.Proofs.YtdbkooliafkcgaaW.PrintMore Go.Proofs.Ytdbkooliafkcgaa

set_option maxHeartbeats 4000000 in
set_option maxRecDepth 100000 in
theorem more_calls {g : Nat} {s : ByteArray} {a line col : Int} {v : Value} {f5 f6 f7 : Int} {w : World} (hb : Scn w g s a line col v f5 f6 f7) :
    Calls Try.prog 35 #[.pointer (some ⟨g, 0, none⟩)] w fun e w' => e = .returned (.bool (decide (a < (s.size : Int)))) ∧ ∃ n, w.drewN n = w' := by
  have h0 := (blk_cell hb 0).trans rfl
  have h1 := (blk_cell hb 1).trans rfl
  clear hb
  go_enter Try.func35, Try.ntmps35
  go_wp2
  repeat (go_quiet (fail); try go_wp2)
  go_ret
  exact ⟨rfl, _, rfl⟩

theorem more_yes {g : Nat} {s : ByteArray} {a line col : Int} {v : Value} {f5 f6 f7 : Int} {w : World} (hb : Scn w g s a line col v f5 f6 f7) (h : a < (s.size : Int)) :
    Calls Try.prog 35 #[.pointer (some ⟨g, 0, none⟩)] w fun e w' => e = .returned (.bool true) ∧ ∃ n, w.drewN n = w' :=
  (more_calls hb).mono fun _ _ hh => ⟨by rw [hh.1, decide_eq_true h], hh.2⟩
theorem more_no {g : Nat} {s : ByteArray} {a line col : Int} {v : Value} {f5 f6 f7 : Int} {w : World} (hb : Scn w g s a line col v f5 f6 f7) (h : (s.size : Int) ≤ a) :
    Calls Try.prog 35 #[.pointer (some ⟨g, 0, none⟩)] w fun e w' => e = .returned (.bool false) ∧ ∃ n, w.drewN n = w' :=
  (more_calls hb).mono fun _ _ hh => ⟨by rw [hh.1, decide_eq_false (by omega)], hh.2⟩

set_option maxHeartbeats 4000000 in
set_option maxRecDepth 100000 in
theorem step_calls {g : Nat} {s : ByteArray} {a line col : Int} {v : Value} {f5 f6 f7 : Int} {w : World} (hb : Scn w g s a line col v f5 f6 f7)
    (hA : At s a line col) (hlt : a < (s.size : Int)) (c : UInt8) (hc : bt s a = c.toNat) :
    Calls Try.prog 46 #[.pointer (some ⟨g, 0, none⟩)] w fun e w' => e = .returned (.tuple #[]) ∧ Scn w' g s (a + 1) (Lx.adv c (line, col)).1 (Lx.adv c (line, col)).2 v f5 f6 f7 ∧ w.grownBy w' (some g) := by
  obtain ⟨q0, q1, q2, q3, q4, q5⟩ := hA
  have HB := Aside0.mk hb
  have h0 := (blk_cell hb 0).trans rfl
  have h1 := (blk_cell hb 1).trans rfl
  have h2 := (blk_cell hb 2).trans rfl
  have h3 := (blk_cell hb 3).trans rfl
  have z1 := blk_frozen hb 1
  have z2 := blk_frozen hb 2
  have z3 := blk_frozen hb 3
  clear hb
  have HC := Aside0.mk hc
  have hx4 := bt_at s a
  by_cases h : bt s a = 10
  · have c5b0 : ((bt s a) == 10) = true := beq_iff_eq.mpr h
    have HH := Aside0.mk h
    clear h hc
    go_enter Try.func46, Try.ntmps46
    go_wp2
    repeat (go_quiet (fail); try go_wp2)
    go_end0
    have e : Lx.adv c (line, col) = (line + 1, 1) := by unfold Lx.adv; rw [if_pos (by have := HC.out; have := HH.out; omega)]
    rw [e]
    refine ⟨rfl, ?_, grown_set (grown_set (grown_set (grown_set (grown_drewN (grown_refl _ _) _) _ _) _ _) _ _) _ _⟩
    have := blk_set (blk_set (blk_set (blk_set (blk_drewN HB.out nq) 2 (.int .i64 (line + 1))) 3 (.int .i64 0)) 1 (.int .i64 (a + 1))) 3 (.int .i64 1)
    unfold Scn
    simpa using this
  · have c5b0 : ((bt s a) == 10) = false := beq_eq_false_iff_ne.mpr h
    have HH := Aside0.mk h
    clear h hc
    go_enter Try.func46, Try.ntmps46
    go_wp2
    repeat (go_quiet (fail); try go_wp2)
    go_end0
    have e : Lx.adv c (line, col) = (line, col + 1) := by unfold Lx.adv; rw [if_neg (by have := HC.out; have := HH.out; omega)]
    rw [e]
    refine ⟨rfl, ?_, grown_set (grown_set (grown_drewN (grown_refl _ _) _) _ _) _ _⟩
    have := blk_set (blk_set (blk_drewN HB.out nq) 1 (.int .i64 (a + 1))) 3 (.int .i64 (col + 1))
    unfold Scn
    simpa using this

set_option maxHeartbeats 4000000 in
set_option maxRecDepth 100000 in
theorem here_calls {g : Nat} {s : ByteArray} {a line col : Int} {v : Value} {f5 f6 f7 : Int} {w : World} (hb : Scn w g s a line col v f5 f6 f7) (k : Int) :
    Calls Try.prog 37 #[.pointer (some ⟨g, 0, none⟩), .int .i64 k] w fun e w' => e = .returned (.agg #[.int .i64 k, .string ⟨#[]⟩, .int .i64 line, .int .i64 col]) ∧ w.grownBy w' none := by
  have HL := Aside0.mk hb.lt
  have h2 := fun o => (blk_cell (blk_alloc hb o) 2).trans rfl
  have h3 := fun o => (blk_cell (blk_alloc hb o) 3).trans rfl
  clear hb
  go_enter Try.func37, Try.ntmps37
  go_wp2
  go_region
  go_wp2
  refine bodyPost_ret (v := .agg #[.int .i64 k, .string ⟨#[]⟩, .int .i64 line, .int .i64 col]) (by simp [results, Try.results37, go_sem]) rfl ⟨rfl, grown_drew (grown_alloc (grown_refl _ _) _)⟩

set_option maxHeartbeats 4000000 in
set_option maxRecDepth 100000 in
theorem fail_calls {g : Nat} {s : ByteArray} {a line col : Int} {v : Value} {f5 f6 f7 : Int} {w : World} (hb : Scn w g s a line col v f5 f6 f7) (k l c e : Int) (t : ByteArray) :
    Calls Try.prog 51 #[.pointer (some ⟨g, 0, none⟩), .agg #[.int .i64 k, .string t, .int .i64 l, .int .i64 c], .int .i64 e] w fun x w' => x = .returned (.bool false) ∧ Scn w' g s a line col v l c e ∧ w.grownBy w' (some g) := by
  have HB := Aside0.mk hb
  have HL := Aside0.mk hb.lt
  have z5 := fun o => blk_frozen (blk_alloc hb o) 5
  have z6 := fun o => blk_frozen (blk_alloc hb o) 6
  have z7 := fun o => blk_frozen (blk_alloc hb o) 7
  have h5 := fun o => (blk_cell (blk_alloc hb o) 5).trans rfl
  have h6 := fun o => (blk_cell (blk_alloc hb o) 6).trans rfl
  have h7 := fun o => (blk_cell (blk_alloc hb o) 7).trans rfl
  clear hb
  go_enter Try.func51, Try.ntmps51
  go_wp2
  go_ret
  refine ⟨rfl, ?_, grown_set (grown_set (grown_set (grown_alloc (grown_refl _ _) _) _ _) _ _) _ _⟩
  have := blk_set (blk_set (blk_set (blk_alloc HB.out (.cells #[.int .i64 k, .string t, .int .i64 l, .int .i64 c] 94)) 5 (.int .i64 l)) 6 (.int .i64 c)) 7 (.int .i64 e)
  unfold Scn
  simpa using this
theorem here_scn {g : Nat} {s : ByteArray} {a line col : Int} {v : Value} {f5 f6 f7 : Int} {w : World} (hb : Scn w g s a line col v f5 f6 f7) (k : Int) :
    Calls Try.prog 37 #[.pointer (some ⟨g, 0, none⟩), .int .i64 k] w fun e w' => e = .returned (.agg #[.int .i64 k, .string ⟨#[]⟩, .int .i64 line, .int .i64 col]) ∧ w.grownBy w' none ∧ Scn w' g s a line col v f5 f6 f7 :=
  (here_calls hb k).mono fun _ _ h => ⟨h.1, h.2, hb.grown h.2 (by simp)⟩
end Go.Proofs.Ytdbkooliafkcgaa.Lw

set_option linter.unusedVariables false
set_option linter.unusedSimpArgs false
namespace Go.Proofs.Ytdbkooliafkcgaa.Lw
open Go.RowKit Go.Proofs.YtdbkooliafkcgaaW.PrintWords Go.Proofs.YtdbkooliafkcgaaW.PrintLast Go.Proofs.YtdbkooliafkcgaaW.PrintMore Go.Proofs.Ytdbkooliafkcgaa

/-- Where a skip is: it began at l0; m: in a comment. -/
def SkipR (m : Bool) (w : World) (g : Nat) (s : ByteArray) (v : Value) (f5 f6 f7 : Int) (a0 : Int) (r : List UInt8 × (Int × Int)) (k : Nat) (wr : World) : Prop :=
  ∃ a line col : Int, Scn wr g s a line col v f5 f6 f7 ∧ w.grownBy wr (some g) ∧ At s a line col ∧ Lx.skip m (suf s a) (line, col) = r ∧ a0 ≤ a ∧ (s.size : Int) - a < k

set_option maxHeartbeats 1000000 in
set_option maxRecDepth 100000 in
theorem skip_calls {g : Nat} {s : ByteArray} {a0 l0 c0 : Int} {v : Value} {f5 f6 f7 : Int} {w : World} (hb : Scn w g s a0 l0 c0 v f5 f6 f7) (hA : At s a0 l0 c0) :
    Calls Try.prog 34 #[.pointer (some ⟨g, 0, none⟩)] w fun e w' => e = .returned (.tuple #[]) ∧
      ∃ a line col, Scn w' g s a line col v f5 f6 f7 ∧ w.grownBy w' (some g) ∧ At s a line col ∧ a0 ≤ a ∧ Lx.skip false (suf s a0) (l0, c0) = (suf s a, (line, col)) ∧ Lx.skip false (suf s a) (line, col) = (suf s a, (line, col)) := by
  have HB := Aside0.mk hb
  have HA := Aside0.mk hA
  clear hb hA
  go_enter Try.func34, Try.ntmps34
  go_wp2_with fail
  go_loopg [] (s.size + 1) (fun k wr => SkipR false w g s v f5 f6 f7 a0 (Lx.skip false (suf s a0) (l0, c0)) k wr)
  case atStart => exact ⟨a0, l0, c0, HB.out, grown_refl _ _, HA.out, rfl, Int.le_refl _, by have := HA.out.a0; omega⟩
  case round =>
    obtain ⟨a, line, col, hS, hG, hT, hsk, ha, hk⟩ := hrel
    have HS := Aside0.mk hS
    have HT := Aside0.mk hT
    have HR := Aside0.mk hsk
    have HG := Aside0.mk hG
    have q0 := hT.a0
    clear hS hT hsk hG
    by_cases hlt : a < (s.size : Int)
    · obtain ⟨c, hc, hbt⟩ := suf_cons q0 hlt
      have HC := Aside0.mk hc
      have HBT := Aside0.mk hbt
      clear hc hbt
      go_wp2_with (go_at_call 35; refine (more_calls HS.out).mono ?_; rintro e w1 ⟨rfl, n1, hn1⟩)
      have HS1 : Aside0 (Scn w1 g s a line col v f5 f6 f7) := ⟨by rw [← hn1]; exact HS.out⟩
      have HG1 : Aside0 (w.grownBy w1 (some g)) := ⟨by rw [← hn1]; exact grown_drewN HG.out _⟩
      clear hn1 HG HS
      have h0 := (blk_cell HS1.out 0).trans rfl
      have h1 := (blk_cell HS1.out 1).trans rfl
      have p4 : (0 ≤ a) = True := eq_true q0
      have q4 : (a < (s.size : Int)) = True := eq_true hlt
      have hx4 := bt_at s a
      go_quiet (fail)
      clear h0 h1 p4 q4 hx4
      generalize hW2 : w1.drewN nq = w2
      have HS2 : Aside0 (Scn w2 g s a line col v f5 f6 f7) := ⟨by rw [← hW2]; exact HS1.out⟩
      have HG2 : Aside0 (w.grownBy w2 (some g)) := ⟨by rw [← hW2]; exact grown_drewN HG1.out _⟩
      clear hW2 HS1 HG1
      by_cases h35 : bt s a = 35
      · have b35 : (bt s a == 35) = true := beq_iff_eq.mpr h35
        have H35 := Aside0.mk h35
        clear h35
        go_wp2_with fail
        go_loopg [] (s.size + 1) (fun k wr => SkipR true w g s v f5 f6 f7 a (Lx.skip false (suf s a) (line, col)) k wr)
        case atStart =>
          refine ⟨a, line, col, HS2.out, HG2.out, HT.out, ?_, Int.le_refl _, by omega⟩
          rw [HC.out]
          have e35 : c.toNat = 35 := by have := HBT.out; have := H35.out; omega
          simp only [Lx.skip, e35]
          simp
        case round =>
          obtain ⟨a', line', col', hS, hG, hT, hsk, ha', hk'⟩ := hrel
          have KS := Aside0.mk hS
          have KT := Aside0.mk hT
          have KR := Aside0.mk hsk
          have KG := Aside0.mk hG
          have q0' := hT.a0
          clear hS hT hsk hG
          obtain ⟨wo, rfl⟩ : ∃ wo : World, wo = wr := ⟨_, rfl⟩
          have h0 := (blk_cell KS.out 0).trans rfl
          have h1 := (blk_cell KS.out 1).trans rfl
          by_cases hlt' : a' < (s.size : Int)
          · obtain ⟨c', hc', hbt'⟩ := suf_cons q0' hlt'
            have KC := Aside0.mk hc'
            have KBT := Aside0.mk hbt'
            clear hc' hbt'
            have p4 : (0 ≤ a') = True := eq_true q0'
            have q4 : (a' < (s.size : Int)) = True := eq_true hlt'
            have hx4 := bt_at s a'
            by_cases h10 : bt s a' = 10
            · have b10 : (bt s a' != 10) = false := bne_eq_false_iff_eq.mpr h10
              have H10 := Aside0.mk h10
              clear h10
              go_wp2_with fail
              go_quiet ((go_at_call 35; exact quiet_any (more_yes (KS.out.drewN _) hlt')))
              clear h0 h1 p4 q4 hx4
              go_wp2_with fail
              go_roundg (((s.size : Int) - a').toNat + 1)
              case measure =>
                have : a ≠ a' := by rintro rfl; have := H10.out; have := H35.out; omega
                omega
              case rel =>
                refine ⟨a', line', col', KS.out.drewN _, grown_drewN KG.out _, KT.out, ?_, by omega, by omega⟩
                have e10 : c'.toNat = 10 := by have := KBT.out; have := H10.out; omega
                have e := KR.out
                rw [KC.out] at e ⊢
                rw [← HR.out, ← e]
                simp [Lx.skip, e10, Lx.blank]
            · have b10 : (bt s a' != 10) = true := bne_iff_ne.mpr h10
              have H10 := Aside0.mk h10
              clear h10
              go_wp2_with fail
              go_quiet ((go_at_call 35; exact quiet_any (more_yes (KS.out.drewN _) hlt')))
              clear h0 h1 p4 q4 hx4
              go_wp2_with (go_at_call 46; refine (step_calls (KS.out.drewN _) KT.out hlt' c' KBT.out).mono ?_; rintro e w3 ⟨rfl, hS3, hG3⟩)
              have n10 : ¬ c'.toNat = 10 := by have := KBT.out; have := H10.out; omega
              go_roundg (((s.size : Int) - (a' + 1)).toNat + 1)
              case measure => omega
              case rel =>
                refine ⟨a' + 1, _, _, hS3, (grown_drewN KG.out _).trans hG3, KT.out.step hlt' c', ?_, by omega, by omega⟩
                have e := KR.out
                rw [KC.out] at e
                rw [← e]
                simp [Lx.skip, n10]
          · have hle : (s.size : Int) ≤ a' := by omega
            clear hlt'
            go_wp2_with fail
            go_quiet ((go_at_call 35; exact quiet_any (more_no (KS.out.drewN _) hle)))
            clear h0 h1
            go_wp2_with fail
            go_roundg (((s.size : Int) - a').toNat + 1)
            case measure => omega
            case rel =>
              refine ⟨a', line', col', KS.out.drewN _, grown_drewN KG.out _, KT.out, ?_, by omega, by omega⟩
              have e := KR.out
              rw [suf_nil (by omega)] at e ⊢
              rw [← HR.out, ← e]
              simp [Lx.skip]
      · have b35 : (bt s a == 35) = false := beq_eq_false_iff_ne.mpr h35
        have n35 : ¬ c.toNat = 35 := by have := HBT.out; omega
        clear h35
        by_cases hbl : Lx.blank c = true
        · have hcase : bt s a = 32 ∨ bt s a = 9 ∨ bt s a = 10 ∨ bt s a = 13 := by
            have := HBT.out
            simp [Lx.blank] at hbl
            omega
          have HBL := Aside0.mk hbl
          have N35 := Aside0.mk n35
          clear hbl n35
          have fin : ∀ w3, Scn w3 g s (a + 1) (Lx.adv c (line, col)).1 (Lx.adv c (line, col)).2 v f5 f6 f7 → w2.grownBy w3 (some g) → SkipR false w g s v f5 f6 f7 a0 (Lx.skip false (suf s a0) (l0, c0)) (((s.size : Int) - (a + 1)).toNat + 1) w3 := by
            intro w3 hS3 hG3
            refine ⟨a + 1, _, _, hS3, HG2.out.trans hG3, HT.out.step hlt c, ?_, by omega, by omega⟩
            have e := HR.out
            rw [HC.out] at e
            rw [← e]
            simp [Lx.skip, N35.out, HBL.out]
          have FIN := Aside0.mk fin
          clear fin
          rcases hcase with h | h | h | h
          · have b1 : (bt s a == 32) = true := beq_iff_eq.mpr h
            clear h
            go_wp2_with (go_at_call 46; refine (step_calls HS2.out HT.out hlt c HBT.out).mono ?_; rintro e w3 ⟨rfl, hS3, hG3⟩)
            go_roundg (((s.size : Int) - (a + 1)).toNat + 1)
            case measure => omega
            case rel => exact FIN.out _ hS3 hG3
          · have b1 : (bt s a == 32) = false := beq_eq_false_iff_ne.mpr (by omega)
            have b2 : (bt s a == 9) = true := beq_iff_eq.mpr h
            clear h
            go_wp2_with (go_at_call 46; refine (step_calls HS2.out HT.out hlt c HBT.out).mono ?_; rintro e w3 ⟨rfl, hS3, hG3⟩)
            go_roundg (((s.size : Int) - (a + 1)).toNat + 1)
            case measure => omega
            case rel => exact FIN.out _ hS3 hG3
          · have b1 : (bt s a == 32) = false := beq_eq_false_iff_ne.mpr (by omega)
            have b2 : (bt s a == 9) = false := beq_eq_false_iff_ne.mpr (by omega)
            have b3 : (bt s a == 10) = true := beq_iff_eq.mpr h
            clear h
            go_wp2_with (go_at_call 46; refine (step_calls HS2.out HT.out hlt c HBT.out).mono ?_; rintro e w3 ⟨rfl, hS3, hG3⟩)
            go_roundg (((s.size : Int) - (a + 1)).toNat + 1)
            case measure => omega
            case rel => exact FIN.out _ hS3 hG3
          · have b1 : (bt s a == 32) = false := beq_eq_false_iff_ne.mpr (by omega)
            have b2 : (bt s a == 9) = false := beq_eq_false_iff_ne.mpr (by omega)
            have b3 : (bt s a == 10) = false := beq_eq_false_iff_ne.mpr (by omega)
            have b4 : (bt s a == 13) = true := beq_iff_eq.mpr h
            clear h
            go_wp2_with (go_at_call 46; refine (step_calls HS2.out HT.out hlt c HBT.out).mono ?_; rintro e w3 ⟨rfl, hS3, hG3⟩)
            go_roundg (((s.size : Int) - (a + 1)).toNat + 1)
            case measure => omega
            case rel => exact FIN.out _ hS3 hG3
        · have hcase : bt s a ≠ 32 ∧ bt s a ≠ 9 ∧ bt s a ≠ 10 ∧ bt s a ≠ 13 := by
            have := HBT.out
            simp [Lx.blank] at hbl
            omega
          have NBL := Aside0.mk hbl
          have N35 := Aside0.mk n35
          clear hbl n35
          have b1 : (bt s a == 32) = false := beq_eq_false_iff_ne.mpr hcase.1
          have b2 : (bt s a == 9) = false := beq_eq_false_iff_ne.mpr hcase.2.1
          have b3 : (bt s a == 10) = false := beq_eq_false_iff_ne.mpr hcase.2.2.1
          have b4 : (bt s a == 13) = false := beq_eq_false_iff_ne.mpr hcase.2.2.2
          clear hcase
          go_wp2_with fail
          refine bodyPost_ret (results_none rfl _ _ _) rfl ?_
          have e1 : Lx.skip false (suf s a) (line, col) = (suf s a, (line, col)) := by rw [HC.out]; simp [Lx.skip, N35.out, NBL.out]
          exact ⟨rfl, a, line, col, HS2.out, HG2.out, HT.out, ha, HR.out.symm.trans e1, e1⟩
    · go_wp2_with (go_at_call 35; refine (more_calls HS.out).mono ?_; rintro e w1 ⟨rfl, n1, hn1⟩)
      go_end0
      have e1 : Lx.skip false (suf s a) (line, col) = (suf s a, (line, col)) := by rw [suf_nil (by omega)]; simp [Lx.skip]
      exact ⟨rfl, a, line, col, by rw [← hn1]; exact HS.out, by rw [← hn1]; exact grown_drewN HG.out _, HT.out, ha, HR.out.symm.trans e1, e1⟩
end Go.Proofs.Ytdbkooliafkcgaa.Lw

set_option linter.unusedVariables false
set_option linter.unusedSimpArgs false
namespace Go.Proofs.Ytdbkooliafkcgaa.Lw
open Go.RowKit Go.Proofs.YtdbkooliafkcgaaW.PrintWords Go.Proofs.YtdbkooliafkcgaaW.PrintLast Go.Proofs.YtdbkooliafkcgaaW.PrintMore Go.Proofs.Ytdbkooliafkcgaa

theorem infoTok : (Try.prog.info? 94).map (fun i => (i.zero, i.size, i.bytes)) = some (some (.agg #[(.int .i64 0), (.string ⟨#[]⟩), (.int .i64 0), (.int .i64 0)]), 4, 40) := by kernel_rfl

/-- The scanner and its tokens. -/
structure Scs (b : Nat) (w : World) (g : Nat) (s : ByteArray) (a line col : Int) (v : Value) (xs : List Value) (n : Nat) (f5 f6 f7 : Int) : Prop where
  scn : Scn w g s a line col v f5 f6 f7
  own : w.ownsRow b 94 4 v n xs
  ge : b ≤ g

/-- What a token's reading leaves. -/
def TokP (b : Nat) (w : World) (g : Nat) (s : ByteArray) (xs : List Value) (n : Nat) (f5 f6 f7 : Int) (res : Except Lx.Flt (Lx.Tok × List UInt8 × (Int × Int))) (x : Ending) (w' : World) : Prop :=
  match res with
  | .error f => x = .returned (.bool false) ∧ ∃ (a' l' c' : Int) (v' : Value), Scn w' g s a' l' c' v' f.p.1 f.p.2 f.code ∧ Below b w w'
  | .ok (t, rest, p) => x = .returned (.bool true) ∧ ∃ (tb : ByteArray) (v' : Value) (a' : Int), tb.data.toList = t.text ∧ suf s a' = rest ∧ At s a' p.1 p.2 ∧
      Scs b w' g s a' p.1 p.2 v' (xs ++ [.int .i64 t.kind, .string tb, .int .i64 t.p.1, .int .i64 t.p.2]) (n + 1) f5 f6 f7 ∧ Below b w w'

/-- What an append of a token to the scanner's tokens leaves. -/
theorem append_close {b g gg cap n : Nat} {s : ByteArray} {a line col : Int} {v : Value} {xs ys : List Value} {f5 f6 f7 : Int} {w W1 w1 : World} {o : Obj} {P : Prop} (hlt : g < w.heap.size) (hge : b ≤ g) (HBl : Below b w W1)
    (HS : Scn W1 g s a line col v f5 f6 f7) (HO : W1.ownsRow b 94 4 v n xs) (hgrow : (W1.alloc o).drew.grownBy w1 v.ownBlock) (hown1 : w1.ownsRow b 94 4 (.slice (some ⟨gg, 0, none⟩) (n + 1) cap) (n + 1) (xs ++ ys)) (ng : some g ≠ v.ownBlock) (hP : P) :
    P ∧ ∃ v', Scs b (w1.setCell ⟨g, 4, none⟩ (.slice (some ⟨gg, 0, none⟩) (n + 1) cap)) g s a line col v' (xs ++ ys) (n + 1) f5 f6 f7 ∧ Below b w (w1.setCell ⟨g, 4, none⟩ (.slice (some ⟨gg, 0, none⟩) (n + 1) cap)) := by
  have h1 : Scn w1 g s a line col v f5 f6 f7 := (HS.alloc o).drew.grown hgrow ng
  have hs := HBl.size
  refine ⟨hP, .slice (some ⟨gg, 0, none⟩) (n + 1) cap, ⟨?_, own_setCell hown1 (own_ne (g := g) (t := 92) hown1 h1 (by decide)) _, hge⟩, ?_⟩
  · have := blk_set h1 4 (.slice (some ⟨gg, 0, none⟩) (n + 1) cap)
    unfold Scn
    simpa using this
  · refine Below.setCell (Below.grown (Below.drew (Below.alloc HBl (by omega) o)) hgrow (by simp; omega) (own_base HO)) hge _

set_option maxHeartbeats 1000000 in
set_option maxRecDepth 100000 in
theorem ended_empty {g : Nat} {s : ByteArray} {a line col : Int} {v : Value} {f5 f6 f7 : Int} {w : World} (hb : Scn w g s a line col v f5 f6 f7) (k l c : Int) (t0 t : ByteArray) (ht : t.data.toList = []) :
    Calls Try.prog 54 #[.pointer (some ⟨g, 0, none⟩), .agg #[.int .i64 k, .string t0, .int .i64 l, .int .i64 c], .string t] w fun x w' => x = .returned (.bool false) ∧ Scn w' g s a line col v l c 2 ∧ w.grownBy w' (some g) := by
  have HB := Aside0.mk hb
  clear hb
  have ht' : t.toList = [] := (ByteArray.toList_eq t).trans ht
  clear ht
  go_enter Try.func54, Try.ntmps54
  go_wp2_with (go_at_call 51; refine (fail_calls (HB.out.alloc _) _ _ _ _ _).mono ?_; rintro e w1 ⟨rfl, hS, hG⟩)
  go_ret
  exact ⟨rfl, hS, (grown_alloc (grown_refl _ _) _).trans hG⟩

set_option maxHeartbeats 1000000 in
set_option maxRecDepth 100000 in
theorem ended_long {g : Nat} {s : ByteArray} {a line col : Int} {v : Value} {f5 f6 f7 : Int} {w : World} (hb : Scn w g s a line col v f5 f6 f7) (k l c : Int) (t0 t : ByteArray) (ht : 16 < t.size) :
    Calls Try.prog 54 #[.pointer (some ⟨g, 0, none⟩), .agg #[.int .i64 k, .string t0, .int .i64 l, .int .i64 c], .string t] w fun x w' => x = .returned (.bool false) ∧ Scn w' g s a line col v l c 6 ∧ w.grownBy w' (some g) := by
  have HB := Aside0.mk hb
  clear hb
  have ht' : (t.toList.isEmpty) = false := by rw [ByteArray.toList_eq]; cases h : t.data.toList with
    | nil => have : t.data.toList.length = t.size := Array.length_toList; rw [h] at this; simp at this; omega
    | cons => rfl
  have ht2 : ¬ t.toList = [] := by intro h; rw [h] at ht'; simp at ht'
  go_enter Try.func54, Try.ntmps54
  go_wp2_with (go_at_call 51; refine (fail_calls (HB.out.alloc _) _ _ _ _ _).mono ?_; rintro e w1 ⟨rfl, hS, hG⟩)
  go_ret
  exact ⟨rfl, hS, (grown_alloc (grown_refl _ _) _).trans hG⟩

set_option maxHeartbeats 1000000 in
set_option maxRecDepth 100000 in
theorem ended_ok {b g : Nat} {s : ByteArray} {a line col : Int} {v : Value} {xs : List Value} {n : Nat} {f5 f6 f7 : Int} {w : World} (hb : Scs b w g s a line col v xs n f5 f6 f7) (k l c : Int) (t0 t : ByteArray) (ht : 1 ≤ t.size) (h16 : t.size ≤ 16) (hn : n ≤ 1000000) :
    Calls Try.prog 54 #[.pointer (some ⟨g, 0, none⟩), .agg #[.int .i64 k, .string t0, .int .i64 l, .int .i64 c], .string t] w fun x w' => x = .returned (.bool true) ∧
      ∃ v', Scs b w' g s a line col v' (xs ++ [.int .i64 k, .string t, .int .i64 l, .int .i64 c]) (n + 1) f5 f6 f7 ∧ Below b w w' := by
  have HB := Aside0.mk hb
  have hlt := hb.scn.lt
  have hge := hb.ge
  clear hb
  have ht2 : ¬ t.toList = [] := by
    rw [ByteArray.toList_eq]
    intro h
    have : t.data.toList.length = t.size := Array.length_toList
    rw [h] at this; simp at this; omega
  have ht' : (t.toList.isEmpty) = false := by simpa using ht2
  obtain ⟨i0, hi0, hz0, hz1, hz2⟩ := info_parts infoTok
  have hown := HB.out.own
  have h4 : ∀ o1, (w.alloc o1).cell? ⟨g, 4, none⟩ = some v := fun o1 => (blk_cell (HB.out.scn.alloc o1) 4).trans rfl
  go_enter Try.func54, Try.ntmps54
  go_wp2_with fail
  have HX := blk_new w (.cells #[.int .i64 k, .string t, .int .i64 l, .int .i64 c] 94)
  have HS := HB.out.scn.alloc (.cells #[.int .i64 k, .string t, .int .i64 l, .int .i64 c] 94)
  have HO := hown.alloc (.cells #[.int .i64 k, .string t, .int .i64 l, .int .i64 c] 94)
  have HBl := below_alloc (Below.refl w.heap.size w) (.cells #[.int .i64 k, .string t, .int .i64 l, .int .i64 c] 94)
  have hsz : w.heap.size < (w.alloc (.cells #[.int .i64 k, .string t, .int .i64 l, .int .i64 c] 94)).heap.size := by simp
  generalize w.alloc (.cells #[.int .i64 k, .string t, .int .i64 l, .int .i64 c] 94) = W1 at HX HS HO HBl hsz ⊢
  generalize hbx : w.heap.size = bx at HX HBl hsz ⊢
  have x0 := (blk_cell HX 0).trans rfl
  have x1 := (blk_cell HX 1).trans rfl
  have x2 := (blk_cell HX 2).trans rfl
  have x3 := (blk_cell HX 3).trans rfl
  have x4 : W1.cell? ⟨g, 4, none⟩ = some v := (blk_cell HS 4).trans rfl
  have nbx : some bx ≠ v.ownBlock := by intro e; have := own_lt hown bx e.symm; omega
  have ng : some g ≠ v.ownBlock := own_ne HO HS (by decide)
  have hW1 : b ≤ W1.heap.size := by omega
  clear h4
  have zf : W1.frozen? ⟨g, 4, none⟩ = false := blk_frozen HS 4
  have hgW : g < W1.heap.size := by omega
  have AL : ∀ {a u o}, W1.cell? a = some u → (W1.alloc o).drew.cell? a = some u := fun {a u o} h => (World.cell?_alloc_some W1 a o (by rw [h]; rfl)).trans h
  have AF : ∀ {o}, W1.frozen? ⟨g, 4, none⟩ = false → (W1.alloc o).drew.frozen? ⟨g, 4, none⟩ = false := fun {o} _ => blk_frozen ((HS.alloc o).drew) 4
  refine start_ (n := 11) (S := fun w' => w'.cell? ⟨g, 4, none⟩ = some v ∧ w'.cell? ⟨bx, 0, none⟩ = some (.int .i64 k) ∧ w'.cell? ⟨bx, 1, none⟩ = some (.string t) ∧ w'.cell? ⟨bx, 2, none⟩ = some (.int .i64 l) ∧ w'.cell? ⟨bx, 3, none⟩ = some (.int .i64 c)) (ds := [10]) #[false, false, false, false, false, false, false, false, false, false, false] (by kernel_rfl) rfl rfl ⟨x4, x0, x1, x2, x3⟩ (fun hHeld => ?_)
  refine pure_ (i := 0) (N := some 22) (v := ?_) (a' := ?_) #[true, false, false, false, false, false, false, false, false, false, false] rfl rfl (by kernel_rfl) (fun _ _ _ h => h) (Or.inl ⟨by rfl, ?_⟩) ?_ ?_
  rotate_left
  · intro w'
    go_simp
    with_reducible rfl
  rotate_left
  · simp only [Act.put, List.setIfInBounds_toArray, List.set_cons_zero, List.set_cons_succ, i64_w, i32_w]
    rfl
  refine pure_ (i := 1) (N := some 23) (v := ?_) (a' := ?_) #[true, true, false, false, false, false, false, false, false, false, false] rfl rfl (by kernel_rfl) (fun _ _ _ h => h) (Or.inl ⟨by rfl, ?_⟩) ?_ ?_
  rotate_left
  · intro w'
    go_simp
    with_reducible rfl
  rotate_left
  · simp only [Act.put, List.setIfInBounds_toArray, List.set_cons_zero, List.set_cons_succ, i64_w, i32_w]
    rfl
  refine pure_ (i := 2) (N := some 24) (v := ?_) (a' := ?_) #[true, true, true, false, false, false, false, false, false, false, false] rfl rfl (by kernel_rfl) (fun _ _ _ h => h) (Or.inl ⟨by rfl, ?_⟩) ?_ ?_
  rotate_left
  · intro w'
    go_simp
    with_reducible rfl
  rotate_left
  · simp only [Act.put, List.setIfInBounds_toArray, List.set_cons_zero, List.set_cons_succ, i64_w, i32_w]
    rfl
  refine pure_ (i := 3) (N := some 25) (v := ?_) (a' := ?_) #[true, true, true, true, false, false, false, false, false, false, false] rfl rfl (by kernel_rfl) (fun _ _ _ h => h) (Or.inl ⟨by rfl, ?_⟩) ?_ ?_
  rotate_left
  · intro w'
    go_simp
    with_reducible rfl
  rotate_left
  · simp only [Act.put, List.setIfInBounds_toArray, List.set_cons_zero, List.set_cons_succ, i64_w, i32_w]
    rfl
  refine take_ (i := 4) (N := some 26) (v := ?_) (a' := ?_) #[true, true, true, true, true, false, false, false, false, false, false] rfl rfl (by kernel_rfl) (fun _ _ _ h => h) (Or.inl ⟨by rfl, ?_⟩) hHeld ?_ ?_
  rotate_left
  · rintro w' ⟨s0, s1, s2, s3, s4⟩
    go_simp
    with_reducible rfl
  rotate_left
  · simp only [Act.put, List.setIfInBounds_toArray, List.set_cons_zero, List.set_cons_succ, i64_w, i32_w]
    rfl
  refine take_ (i := 5) (N := some 27) (v := ?_) (a' := ?_) #[true, true, true, true, true, true, false, false, false, false, false] rfl rfl (by kernel_rfl) (fun _ _ _ h => h) (Or.inl ⟨by rfl, ?_⟩) hHeld ?_ ?_
  rotate_left
  · rintro w' ⟨s0, s1, s2, s3, s4⟩
    go_simp
    with_reducible rfl
  rotate_left
  · simp only [Act.put, List.setIfInBounds_toArray, List.set_cons_zero, List.set_cons_succ, i64_w, i32_w]
    rfl
  refine one_ (i := 6) (N := some 28) #[true, true, true, true, true, true, true, false, false, false, false] rfl rfl (by kernel_rfl) (by decide) (fun K hK => ?_)
  refine value_ (w1 := ?_) (v := ?_) (by rfl) rfl ?_ ?_
  rotate_left 2
  · go_simp
    constructor
    · rfl
    · rfl
  refine hK.out _ _ ⟨(AL x4), (AL x0), (AL x1), (AL x2), (AL x3)⟩ (fun hHeld => ?_)
  clear hK K
  refine norm_ (a' := ?_) ?_ ?_
  rotate_left
  · show Act.put _ (some 28) _ = _
    simp only [Act.put, List.setIfInBounds_toArray, List.set_cons_zero, List.set_cons_succ, i64_w, i32_w]
    rfl
  refine one_ (i := 7) (N := some 29) #[true, true, true, true, true, true, true, true, false, false, false] rfl rfl (by kernel_rfl) (by decide) (fun K hK => ?_)
  refine step_append_lies _ (by rfl) _ _ _ (by rfl) b 94 i0 _ 4 40 Try.underlying75 hi0 hz0 hz1 hz2 rfl (by omega) v n xs (by rfl) ((HO.alloc _).drew) ⟨W1.heap.size, 0, none⟩ 1 1 [.int .i64 k, .string t, .int .i64 l, .int .i64 c] (by rfl) (by rfl) (World.news_of_block (cs := #[.int .i64 k, .string t, .int .i64 l, .int .i64 c]) (t := 94) (fr := (0, 0)) (heap_alloc_new W1 _)) (by simp [Value.oneCell']) (by omega) (by unfold maxLen; omega) (by omega) (by simp; omega) (W1.heap.size + 1) (by simp) ?_
  intro gg cap w1 hown1 hgrow hat hlt1
  have kf : ∀ a u, a.block < W1.heap.size → some a.block ≠ v.ownBlock → W1.cell? a = some u → w1.cell? a = some u := fun a u h1 h2 h3 => (hgrow.cell_far a (by simp; omega) h2).trans (AL h3)
  refine hK.out _ _ ⟨(kf _ _ hgW ng x4), (kf _ _ hsz nbx x0), (kf _ _ hsz nbx x1), (kf _ _ hsz nbx x2), (kf _ _ hsz nbx x3)⟩ (fun hHeld => ?_)
  clear hK K
  refine norm_ (a' := ?_) ?_ ?_
  rotate_left
  · show Act.put _ (some 29) _ = _
    simp only [Act.put, List.setIfInBounds_toArray, List.set_cons_zero, List.set_cons_succ, i64_w, i32_w]
    rfl
  refine pure_ (i := 8) (N := some 30) (v := ?_) (a' := ?_) #[true, true, true, true, true, true, true, true, true, false, false] rfl rfl (by kernel_rfl) (fun _ _ _ h => h) (Or.inl ⟨by rfl, ?_⟩) ?_ ?_
  rotate_left
  · intro w'
    go_simp
    with_reducible rfl
  rotate_left
  · simp only [Act.put, List.setIfInBounds_toArray, List.set_cons_zero, List.set_cons_succ, i64_w, i32_w]
    rfl
  refine pure_ (i := 9) (N := some 31) (v := ?_) (a' := ?_) #[true, true, true, true, true, true, true, true, true, true, false] rfl rfl (by kernel_rfl) (fun _ _ _ h => h) (Or.inl ⟨by rfl, ?_⟩) ?_ ?_
  rotate_left
  · intro w'
    go_simp
    with_reducible rfl
  rotate_left
  · simp only [Act.put, List.setIfInBounds_toArray, List.set_cons_zero, List.set_cons_succ, i64_w, i32_w]
    rfl
  refine last_ (i := 10) (N := none) #[true, true, true, true, true, true, true, true, true, true, true] rfl rfl (by kernel_rfl) (by decide) (fun K hK => ?_)
  have z4 : w1.frozen? ⟨g, 4, none⟩ = false := (hgrow.frozen_far ⟨g, 4, none⟩ (by simp; omega) ng).trans (AF zf)
  have y4 := kf ⟨g, 4, none⟩ _ hgW ng x4
  refine skip_ (w1 := ?_) (by rfl) rfl ?_ ?_
  rotate_left
  · go_simp
    rfl
  refine hK.out _ _ ?_
  clear hK K
  refine done_ (by kernel_rfl) ?_
  go_wp2
  go_ret
  exact append_close hlt hge (HBl.mono (by omega)) HS HO hgrow hown1 ng rfl
end Go.Proofs.Ytdbkooliafkcgaa.Lw

set_option linter.unusedVariables false
set_option linter.unusedSimpArgs false
namespace Go.Proofs.Ytdbkooliafkcgaa.Lw
open Go.RowKit Go.Proofs.YtdbkooliafkcgaaW.PrintWords Go.Proofs.YtdbkooliafkcgaaW.PrintLast Go.Proofs.YtdbkooliafkcgaaW.PrintMore Go.Proofs.Ytdbkooliafkcgaa

set_option maxHeartbeats 4000000 in
set_option maxRecDepth 100000 in
theorem letter_calls (c : UInt8) (x : Int) (hx : x = c.toNat) (w : World) :
    Calls Try.prog 47 #[.int .u8 x] w fun e w' => e = .returned (.bool (Lx.letter c)) ∧ w = w' := by
  have HX := Aside0.mk hx
  clear hx
  by_cases h1 : 97 ≤ x <;> by_cases h2 : x ≤ 122 <;> by_cases h3 : 65 ≤ x <;> by_cases h4 : x ≤ 90
  all_goals first
    | (exfalso; omega)
    | (have e : Lx.letter c = true := by
         have := HX.out
         simp [Lx.letter]; omega
       rw [e]
       clear e
       go_enter Try.func47, Try.ntmps47
       go_wp2
       go_ret
       exact ⟨rfl, rfl⟩)
    | (have e : Lx.letter c = false := by
         have := HX.out
         simp [Lx.letter]; omega
       rw [e]
       clear e
       go_enter Try.func47, Try.ntmps47
       go_wp2
       go_ret
       exact ⟨rfl, rfl⟩)
theorem quiet_eq {P : Program} {f : FuncId} {args : Array Value} {w : World} {n : Nat} {v : Value}
    (h : Calls P f args (w.drewN n) fun e w' => e = .returned v ∧ w.drewN n = w') : Calls P f args (w.drewN n) fun e w'' => e = .returned v ∧ ∃ m, w'' = w.drewN m :=
  h.mono fun _ _ ⟨he, hm⟩ => ⟨he, n, hm.symm⟩

set_option maxHeartbeats 4000000 in
set_option maxRecDepth 100000 in
theorem inName_calls (c : UInt8) (x : Int) (hx : x = c.toNat) (w : World) :
    Calls Try.prog 53 #[.int .u8 x] w fun e w' => e = .returned (.bool (Lx.inName c)) ∧ w = w' := by
  have HX := Aside0.mk hx
  clear hx
  cases hl : Lx.letter c with
  | true =>
    have e : Lx.inName c = true := by simp [Lx.inName, hl]
    rw [e]
    have hc := letter_calls c x HX.out
    rw [hl] at hc
    have HC := Aside0.mk hc
    clear e hl hc
    go_enter Try.func53, Try.ntmps53
    go_wp2_with (go_at_call 47; refine (HC.out _).mono ?_; rintro e w' ⟨rfl, rfl⟩)
    go_ret
    exact ⟨rfl, rfl⟩
  | false =>
    have hc := letter_calls c x HX.out
    rw [hl] at hc
    have HC := Aside0.mk hc
    clear hc
    have hn : Lx.inName c = ((decide (48 ≤ c.toNat) && decide (c.toNat ≤ 57)) || (c.toNat == 95) || (c.toNat == 45)) := by simp [Lx.inName, hl]
    rw [hn]
    clear hl hn
    by_cases h1 : 48 ≤ x <;> by_cases h2 : x ≤ 57 <;> by_cases h3 : x = 95 <;> by_cases h4 : x = 45
    all_goals first
      | (exfalso; omega)
      | (have b3 := beq_iff_eq.mpr h3
         have b4 := beq_iff_eq.mpr h4
         exfalso; omega)
      | (have e : ((decide (48 ≤ c.toNat) && decide (c.toNat ≤ 57)) || (c.toNat == 95) || (c.toNat == 45)) = true := by
           have := HX.out
           simp; omega
         rw [e]
         clear e
         first
           | (have b3 : (x == 95) = true := beq_iff_eq.mpr h3
              clear h3 h4
              go_enter Try.func53, Try.ntmps53
              go_wp2_with (go_at_call 47; refine (HC.out _).mono ?_; rintro e w' ⟨rfl, rfl⟩)
              go_ret
              exact ⟨rfl, rfl⟩)
           | (have b3 : (x == 95) = false := beq_eq_false_iff_ne.mpr h3
              first
                | (have b4 : (x == 45) = true := beq_iff_eq.mpr h4
                   clear h3 h4
                   go_enter Try.func53, Try.ntmps53
                   go_wp2_with (go_at_call 47; refine (HC.out _).mono ?_; rintro e w' ⟨rfl, rfl⟩)
                   go_ret
                   exact ⟨rfl, rfl⟩)
                | (have b4 : (x == 45) = false := beq_eq_false_iff_ne.mpr h4
                   clear h3 h4
                   go_enter Try.func53, Try.ntmps53
                   go_wp2_with (go_at_call 47; refine (HC.out _).mono ?_; rintro e w' ⟨rfl, rfl⟩)
                   go_ret
                   exact ⟨rfl, rfl⟩)))
      | (have e : ((decide (48 ≤ c.toNat) && decide (c.toNat ≤ 57)) || (c.toNat == 95) || (c.toNat == 45)) = false := by
           have := HX.out
           simp; omega
         rw [e]
         clear e
         try have b2 : decide (x ≤ 57) = false := decide_eq_false h2
         have b3 : (x == 95) = false := beq_eq_false_iff_ne.mpr h3
         have b4 : (x == 45) = false := beq_eq_false_iff_ne.mpr h4
         clear h3 h4
         go_enter Try.func53, Try.ntmps53
         go_wp2_with (go_at_call 47; refine (HC.out _).mono ?_; rintro e w' ⟨rfl, rfl⟩)
         go_ret
         exact ⟨rfl, rfl⟩)
end Go.Proofs.Ytdbkooliafkcgaa.Lw

set_option linter.unusedVariables false
set_option linter.unusedSimpArgs false
namespace Go.Proofs.Ytdbkooliafkcgaa.Lw
open Go.RowKit Go.Proofs.YtdbkooliafkcgaaW.PrintWords Go.Proofs.YtdbkooliafkcgaaW.PrintLast Go.Proofs.YtdbkooliafkcgaaW.PrintMore Go.Proofs.Ytdbkooliafkcgaa

/-- A token's box. -/
def BoxAt (w wx : World) (bx : Nat) (k l c : Int) (t : ByteArray) : Prop :=
  wx.heap[bx]? = some (.cells #[.int .i64 k, .string t, .int .i64 l, .int .i64 c] 94 (0, 0)) ∧ w.heap.size ≤ bx
def NameCut (w : World) (g : Nat) (s : ByteArray) (a line col : Int) (v : Value) (f5 f6 f7 : Int) (s3 s4 : Value) (wx : World) : Prop :=
  ∃ bx : Nat, s3 = .pointer (some ⟨bx, 0, none⟩) ∧ s4 = .int .i64 a ∧ BoxAt w wx bx 1 line col ⟨#[]⟩ ∧ Scn wx g s a line col v f5 f6 f7 ∧ w.grownBy wx none
def nm (s : ByteArray) (a : Int) : Bool := match suf s a with
  | [] => false
  | c :: _ => Lx.inName c
theorem nm_yes {s : ByteArray} {a : Int} (h0 : 0 ≤ a) (h1 : a < s.size) : ∃ c, suf s a = c :: suf s (a + 1) ∧ bt s a = c.toNat ∧ nm s a = Lx.inName c := by
  obtain ⟨c, h2, h3⟩ := suf_cons h0 h1
  exact ⟨c, h2, h3, by unfold nm; rw [h2]⟩
theorem nm_no {s : ByteArray} {a : Int} (h1 : (s.size : Int) ≤ a) : nm s a = false := by unfold nm; rw [suf_nil h1]
def NameR (w : World) (g : Nat) (s : ByteArray) (a line col : Int) (v : Value) (f5 f6 f7 : Int) (bx k : Nat) (wr : World) : Prop :=
  ∃ a' l' c' : Int, BoxAt w wr bx 1 line col ⟨#[]⟩ ∧ Scn wr g s a' l' c' v f5 f6 f7 ∧ w.grownBy wr (some g) ∧ At s a' l' c' ∧ a ≤ a' ∧ (s.size : Int) - a' < k ∧
    (Lx.nameL (suf s a) (line, col)).1 = (s.extract a.toNat a'.toNat).data.toList ++ (Lx.nameL (suf s a') (l', c')).1 ∧ (Lx.nameL (suf s a) (line, col)).2 = (Lx.nameL (suf s a') (l', c')).2
def nameRes (l : List UInt8) (p : Int × Int) : Except Lx.Flt (Lx.Tok × List UInt8 × (Int × Int)) :=
  if (Lx.nameL l p).1.length > 32 then .error ⟨p, 6⟩ else .ok (⟨1, (Lx.nameL l p).1, p⟩, (Lx.nameL l p).2)
theorem BoxAt.far {w wx w3 : World} {bx g : Nat} {k l c : Int} {t : ByteArray} (h : BoxAt w wx bx k l c t) (hg : wx.grownBy w3 (some g)) (hlt : g < w.heap.size) : BoxAt w w3 bx k l c t :=
  ⟨blk_grown h.1 hg (by have := h.2; simp; omega), h.2⟩
theorem extract_snoc {s : ByteArray} {a b : Int} {c : UInt8} (h0 : 0 ≤ a) (h1 : a ≤ b) (h2 : b < s.size) (hc : suf s b = c :: suf s (b + 1)) : (s.extract a.toNat (b + 1).toNat).data.toList = (s.extract a.toNat b.toNat).data.toList ++ [c] := by
  have e1 := suf_cut h0 h1 (show b ≤ s.size by omega)
  have e2 := suf_cut h0 (show a ≤ b + 1 by omega) (show b + 1 ≤ s.size by omega)
  rw [hc, ← e2] at e1
  have : (s.extract a.toNat b.toNat).data.toList ++ [c] ++ suf s (b + 1) = (s.extract a.toNat (b + 1).toNat).data.toList ++ suf s (b + 1) := by simpa using e1
  exact (List.append_cancel_right this).symm

set_option maxHeartbeats 1000000 in
set_option maxRecDepth 100000 in
theorem name_calls {b g : Nat} {s : ByteArray} {a line col : Int} {v : Value} {xs : List Value} {n : Nat} {f5 f6 f7 : Int} {w : World} (hb : Scs b w g s a line col v xs n f5 f6 f7) (hA : At s a line col) (hn : n ≤ 1000000) :
    Calls Try.prog 48 #[.pointer (some ⟨g, 0, none⟩)] w (TokP b w g s xs n f5 f6 f7 (nameRes (suf s a) (line, col))) := by
  have HB := Aside0.mk hb
  have HA := Aside0.mk hA
  have hS : Scn w g s a line col v f5 f6 f7 := hb.scn
  have x1 : w.cell? ⟨g, 1, none⟩ = some (.int .i64 a) := (blk_cell hS 1).trans rfl
  have HS := Aside0.mk hS
  have hlt := hS.lt
  have hge := hb.ge
  have q0 := hA.a0
  clear hb hA hS
  obtain ⟨i0, hi0, hz0, hz1, hz2⟩ := info_parts infoTok
  have HI := Aside0.mk (And.intro hz0 (And.intro hz1 hz2))
  clear hz0 hz1 hz2
  go_enter Try.func48, Try.ntmps48
  go_upto_region 1 with fail
  go_cut [3, 4] (fun s3 s4 wx => NameCut w g s a line col v f5 f6 f7 s3 s4 wx)
  case first =>
    have SF : ∀ q w2, BoxAt w w2 q 0 0 0 ⟨#[]⟩ → Scn w2 g s a line col v f5 f6 f7 → Scn ((((w2.setCell ⟨q, 0, none⟩ (.int .i64 1)).setCell ⟨q, 1, none⟩ (.string ⟨#[]⟩)).setCell ⟨q, 2, none⟩ (.int .i64 line)).setCell ⟨q, 3, none⟩ (.int .i64 col)) g s a line col v f5 f6 f7 ∧
        ((((w2.setCell ⟨q, 0, none⟩ (.int .i64 1)).setCell ⟨q, 1, none⟩ (.string ⟨#[]⟩)).setCell ⟨q, 2, none⟩ (.int .i64 line)).setCell ⟨q, 3, none⟩ (.int .i64 col)).cell? ⟨g, 1, none⟩ = some (.int .i64 a) := by
      intro q w2 hX hS2
      have hne : g ≠ q := by have := hX.2; omega
      have h := blk_far (p := ⟨q, 3, none⟩) (blk_far (p := ⟨q, 2, none⟩) (blk_far (p := ⟨q, 1, none⟩) (blk_far (p := ⟨q, 0, none⟩) hS2 hne (.int .i64 1)) hne (.string ⟨#[]⟩)) hne (.int .i64 line)) hne (.int .i64 col)
      exact ⟨h, (blk_cell h 1).trans rfl⟩
    refine start_ (n := 9) (S := fun w' => Scn w' g s a line col v f5 f6 f7 ∧ w'.cell? ⟨g, 1, none⟩ = some (.int .i64 a)) (ds := []) #[false, false, false, false, false, false, false, false, false] (by kernel_rfl) rfl rfl ⟨HS.out, x1⟩ (fun hHeld => ?_)
    refine pure_ (i := 0) (N := some 5) (v := ?_) (a' := ?_) #[true, false, false, false, false, false, false, false, false] rfl rfl (by kernel_rfl) (fun _ _ _ h => h) (Or.inl ⟨by rfl, ?_⟩) ?_ ?_
    rotate_left
    · intro w'
      go_simp
      with_reducible rfl
    rotate_left
    · simp only [Act.put, List.setIfInBounds_toArray, List.set_cons_zero, List.set_cons_succ, i64_w, i32_w]
      rfl
    refine pure_ (i := 2) (N := some 7) (v := ?_) (a' := ?_) #[true, false, true, false, false, false, false, false, false] rfl rfl (by kernel_rfl) (fun _ _ _ h => h) (Or.inl ⟨by rfl, ?_⟩) ?_ ?_
    rotate_left
    · intro w'
      go_simp
      with_reducible rfl
    rotate_left
    · simp only [Act.put, List.setIfInBounds_toArray, List.set_cons_zero, List.set_cons_succ, i64_w, i32_w]
      rfl
    refine pure_ (i := 3) (N := some 8) (v := ?_) (a' := ?_) #[true, false, true, true, false, false, false, false, false] rfl rfl (by kernel_rfl) (fun _ _ _ h => h) (Or.inl ⟨by rfl, ?_⟩) ?_ ?_
    rotate_left
    · intro w'
      go_simp
      with_reducible rfl
    rotate_left
    · simp only [Act.put, List.setIfInBounds_toArray, List.set_cons_zero, List.set_cons_succ, i64_w, i32_w]
      rfl
    refine pure_ (i := 4) (N := some 9) (v := ?_) (a' := ?_) #[true, false, true, true, true, false, false, false, false] rfl rfl (by kernel_rfl) (fun _ _ _ h => h) (Or.inl ⟨by rfl, ?_⟩) ?_ ?_
    rotate_left
    · intro w'
      go_simp
      with_reducible rfl
    rotate_left
    · simp only [Act.put, List.setIfInBounds_toArray, List.set_cons_zero, List.set_cons_succ, i64_w, i32_w]
      rfl
    refine take_ (i := 5) (N := some 10) (v := ?_) (a' := ?_) #[true, false, true, true, true, true, false, false, false] rfl rfl (by kernel_rfl) (fun _ _ _ h => h) (Or.inl ⟨by rfl, ?_⟩) hHeld ?_ ?_
    rotate_left
    · rintro w' ⟨s0, s1⟩
      go_simp
      with_reducible rfl
    rotate_left
    · simp only [Act.put, List.setIfInBounds_toArray, List.set_cons_zero, List.set_cons_succ, i64_w, i32_w]
      rfl
    refine join_ (σ := Nat) 2 #[true, true, true, true, true, true, true, false, false] (fun q => [(6, .agg #[.int .i64 1, .string ⟨#[]⟩, .int .i64 line, .int .i64 col]), (3, .pointer (some ⟨q, 0, none⟩))]) (fun q w2 => BoxAt w w2 q 0 0 0 ⟨#[]⟩ ∧ Scn w2 g s a line col v f5 f6 f7 ∧ w.grownBy w2 none) ?_ ?_
    rotate_left
    · intro hCont
      refine two_ (i := 1) (j := 6) (Ni := some 6) (Nj := some 3) #[true, true, true, true, true, true, false, false, false] #[true, false, true, true, true, true, true, false, false] rfl rfl rfl rfl (by kernel_rfl) (by decide) (by decide) (fun K hK => ?_) (fun K hK => ?_)
      · skip
        refine goes_ Try.func37 (by kernel_rfl) rfl #[.pointer (some ⟨g, 0, none⟩), .int .i64 1] (by rfl) rfl rfl (by simp only [List.map_toArray, List.map_cons, List.map_nil]; rfl) ?_
        with_reducible refine (here_scn hHeld.1 1).mono ?_
        rintro e w1 ⟨rfl, hg1, hS1⟩
        refine ⟨_, rfl, ?_⟩
        refine hK.out _ _ ⟨hS1, ((blk_cell hS1 1).trans rfl)⟩ (fun hHeld => ?_)
        clear hK K
        refine norm_ (a' := ?_) ?_ ?_
        rotate_left
        · show Act.put _ (some 6) _ = _
          simp only [Act.put, List.setIfInBounds_toArray, List.set_cons_zero, List.set_cons_succ, i64_w, i32_w]
          rfl
        refine one_ (i := 6) (N := some 3) #[true, true, true, true, true, true, true, false, false] rfl rfl (by kernel_rfl) (by decide) (fun K hK => ?_)
        refine value_ (w1 := ?_) (v := ?_) (by rfl) rfl ?_ ?_
        rotate_left 2
        · go_simp
          constructor
          · rfl
          · rfl
        refine hK.out _ _ ⟨(hS1.alloc _), ((blk_cell (hS1.alloc _) 1).trans rfl)⟩ (fun hHeld => ?_)
        clear hK K
        refine norm_ (a' := ?_) ?_ ?_
        rotate_left
        · show Act.put _ (some 3) _ = _
          simp only [Act.put, List.setIfInBounds_toArray, List.set_cons_zero, List.set_cons_succ, i64_w, i32_w]
          rfl
        exact norm_ (by simp only [putAll, Act.put, List.setIfInBounds_toArray, List.set_cons_zero, List.set_cons_succ]) (hCont w1.heap.size _ ⟨⟨blk_new w1 (.cells #[.int .i64 0, .string ⟨#[]⟩, .int .i64 0, .int .i64 0] 94), hg1.size⟩, hS1.alloc _, grown_alloc (grown_from hg1) _⟩)
      · skip
        refine value_ (w1 := ?_) (v := ?_) (by rfl) rfl ?_ ?_
        rotate_left 2
        · go_simp
          constructor
          · rfl
          · rfl
        refine hK.out _ _ ⟨(HS.out.drew.alloc _), ((blk_cell (HS.out.drew.alloc _) 1).trans rfl)⟩ (fun hHeld => ?_)
        clear hK K
        refine norm_ (a' := ?_) ?_ ?_
        rotate_left
        · show Act.put _ (some 3) _ = _
          simp only [Act.put, List.setIfInBounds_toArray, List.set_cons_zero, List.set_cons_succ, i64_w, i32_w]
          rfl
        refine one_ (i := 1) (N := some 6) #[true, true, true, true, true, true, true, false, false] rfl rfl (by kernel_rfl) (by decide) (fun K hK => ?_)
        refine goes_ Try.func37 (by kernel_rfl) rfl #[.pointer (some ⟨g, 0, none⟩), .int .i64 1] (by rfl) rfl rfl (by simp only [List.map_toArray, List.map_cons, List.map_nil]; rfl) ?_
        with_reducible refine (here_scn hHeld.1 1).mono ?_
        rintro e w1 ⟨rfl, hg1, hS1⟩
        refine ⟨_, rfl, ?_⟩
        refine hK.out _ _ ⟨hS1, ((blk_cell hS1 1).trans rfl)⟩ (fun hHeld => ?_)
        clear hK K
        refine norm_ (a' := ?_) ?_ ?_
        rotate_left
        · show Act.put _ (some 6) _ = _
          simp only [Act.put, List.setIfInBounds_toArray, List.set_cons_zero, List.set_cons_succ, i64_w, i32_w]
          rfl
        exact norm_ (by simp only [putAll, Act.put, List.setIfInBounds_toArray, List.set_cons_zero, List.set_cons_succ]) (hCont w.heap.size _ ⟨⟨blk_grown (blk_drew (blk_new w (.cells #[.int .i64 0, .string ⟨#[]⟩, .int .i64 0, .int .i64 0] 94))) hg1 (by simp), Nat.le_refl _⟩, hS1, (grown_drew (grown_alloc (grown_refl w none) _)).trans hg1⟩)
    rintro q w2 ⟨hX, hS2, hG2⟩
    have hHeld : Scn w2 g s a line col v f5 f6 f7 ∧ w2.cell? ⟨g, 1, none⟩ = some (.int .i64 a) := ⟨hS2, (blk_cell hS2 1).trans rfl⟩
    have HX := Aside0.mk hX
    have HS2 := Aside0.mk hS2
    have HG2 := Aside0.mk hG2
    have y0 := (blk_cell hX.1 0).trans rfl
    have y1 := (blk_cell hX.1 1).trans rfl
    have y2 := (blk_cell hX.1 2).trans rfl
    have y3 := (blk_cell hX.1 3).trans rfl
    have z0 := blk_frozen hX.1 0
    have z1 := blk_frozen hX.1 1
    have z2 := blk_frozen hX.1 2
    have z3 := blk_frozen hX.1 3
    clear hX hS2 hG2
    refine norm_ (a' := ?_) ?_ ?_
    rotate_left
    · simp only [putAll, Act.put, List.setIfInBounds_toArray, List.set_cons_zero, List.set_cons_succ]
      rfl
    refine one_ (i := 7) (N := none) #[true, true, true, true, true, true, true, true, false] rfl rfl (by kernel_rfl) (by decide) (fun K hK => ?_)
    refine skip_ (w1 := ?_) (by rfl) rfl ?_ ?_
    rotate_left
    · go_simp
      rfl
    refine hK.out _ _ ⟨(SF q w2 HX.out HS2.out).1, (SF q w2 HX.out HS2.out).2⟩ (fun hHeld => ?_)
    clear hK K
    refine pure_ (i := 8) (N := some 4) (v := ?_) (a' := ?_) #[true, true, true, true, true, true, true, true, true] rfl rfl (by kernel_rfl) (fun _ _ _ h => h) (Or.inl ⟨by rfl, ?_⟩) ?_ ?_
    rotate_left
    · intro w'
      go_simp
      with_reducible rfl
    rotate_left
    · simp only [Act.put, List.setIfInBounds_toArray, List.set_cons_zero, List.set_cons_succ, i64_w, i32_w]
      rfl
    refine done_ (by kernel_rfl) ?_
    go_wp2_with fail
    go_meet
    case rel => exact ⟨q, rfl, rfl, ⟨box_store HX.out.1 _ _ _ _, HX.out.2⟩, (SF q w2 HX.out HS2.out).1, grown_setNew (grown_setNew (grown_setNew (grown_setNew HG2.out HX.out.2 _) HX.out.2 _) HX.out.2 _) HX.out.2 _⟩
  case rest =>
    obtain ⟨bx, rfl, rfl, hX, hS, hG⟩ := hcut
    have KX := Aside0.mk hX
    have KS := Aside0.mk hS
    have KG := Aside0.mk hG
    have hbx := hX.2
    clear hX hS hG x1
    go_wp2_with fail
    go_loopg [] (s.size + 1) (fun k wr => NameR w g s a line col v f5 f6 f7 bx k wr)
    case atStart => exact ⟨a, line, col, KX.out, KS.out, grown_some KG.out _, HA.out, Int.le_refl _, by omega, by simp, rfl⟩
    case round =>
      obtain ⟨a', l', c', hX, hS, hG, hT, ha', hk', hr1, hr2⟩ := hrel
      have LX := Aside0.mk hX
      have LS := Aside0.mk hS
      have LG := Aside0.mk hG
      have LT := Aside0.mk hT
      have LR := Aside0.mk (And.intro hr1 hr2)
      have q0' := hT.a0
      have q1' := hT.a1
      clear hX hS hG hT hr1 hr2
      go_upto_region 2 with fail
      go_cut [24] (fun s24 wx => s24 = .bool (nm s a') ∧ ∃ m, wr.drewN m = wx)
      case first =>
        by_cases hlt' : a' < (s.size : Int)
        · obtain ⟨c, hc, hbt, hnm⟩ := nm_yes q0' hlt'
          have hin := inName_calls c (bt s a') hbt
          rw [← hnm] at hin
          have HIN := Aside0.mk hin
          clear hc hbt hnm hin
          have h0 := (blk_cell LS.out 0).trans rfl
          have h1 := (blk_cell LS.out 1).trans rfl
          have p4 : (0 ≤ a') = True := eq_true q0'
          have q4 : (a' < (s.size : Int)) = True := eq_true hlt'
          have hx4 := bt_at s a'
          go_quiet ((first | (go_at_call 35; exact quiet_any (more_yes (LS.out.drewN _) hlt')) | (go_at_call 53; exact quiet_eq (HIN.out _))))
          go_wp2_with fail
          go_meet
          case rel => exact ⟨by simp, _, rfl⟩
        · have hle : (s.size : Int) ≤ a' := by omega
          clear hlt'
          have HN := Aside0.mk (nm_no hle)
          go_quiet ((go_at_call 35; exact quiet_any (more_no (LS.out.drewN _) hle)))
          go_wp2_with fail
          go_meet
          case rel => exact ⟨by rw [HN.out], _, rfl⟩
      case rest =>
        obtain ⟨hv, m, hm⟩ := hcut
        subst hv
        have MS : Aside0 (Scn wc g s a' l' c' v f5 f6 f7) := ⟨by rw [← hm]; exact LS.out⟩
        have MG : Aside0 (w.grownBy wc (some g)) := ⟨by rw [← hm]; exact grown_drewN LG.out _⟩
        have MX : Aside0 (BoxAt w wc bx 1 line col ⟨#[]⟩) := ⟨by rw [← hm]; exact LX.out⟩
        clear hm
        cases hd : nm s a' with
        | true =>
          have hlt' : a' < (s.size : Int) := by
            rcases Int.lt_or_le a' s.size with h | h
            · exact h
            · rw [nm_no h] at hd; cases hd
          obtain ⟨c, hc, hbt, hnm⟩ := nm_yes q0' hlt'
          have HC := Aside0.mk (And.intro hc (And.intro hbt (hnm.symm.trans hd)))
          clear hc hbt hnm hd
          go_wp2_with (go_at_call 46; refine (step_calls MS.out LT.out hlt' c HC.out.2.1).mono ?_; rintro e w3 ⟨rfl, hS3, hG3⟩)
          go_roundg (((s.size : Int) - (a' + 1)).toNat + 1)
          case measure => omega
          case rel =>
            refine ⟨a' + 1, _, _, MX.out.far hG3 hlt, hS3, MG.out.trans hG3, LT.out.step hlt' c, by omega, by omega, ?_, ?_⟩
            · rw [LR.out.1, extract_snoc q0 ha' hlt' HC.out.1, HC.out.1]
              simp [Lx.nameL, HC.out.2.2]
            · rw [LR.out.2, HC.out.1]
              simp [Lx.nameL, HC.out.2.2]
        | false =>
          have hend : Lx.nameL (suf s a') (l', c') = ([], suf s a', (l', c')) := by
            rcases Int.lt_or_le a' s.size with h | h
            · obtain ⟨c, hc, hbt, hnm⟩ := nm_yes q0' h
              rw [hd] at hnm
              rw [hc]
              simp [Lx.nameL, ← hnm]
            · rw [suf_nil h]; rfl
          have HE := Aside0.mk hend
          clear hend hd
          go_wp2_with fail
          have x0 := (blk_cell MS.out 0).trans rfl
          have x1 := (blk_cell MS.out 1).trans rfl
          have x2 := (blk_cell MX.out.1 1).trans rfl
          have x3 := blk_frozen MX.out.1 1
          refine start_ (n := 12) (S := fun w' => w'.cell? ⟨g, 0, none⟩ = some (.string s) ∧ w'.cell? ⟨g, 1, none⟩ = some (.int .i64 a')) (ds := [11]) #[false, false, false, false, false, false, false, false, false, false, false, false] (by kernel_rfl) rfl rfl ⟨x0, x1⟩ (fun hHeld => ?_)
          refine pure_ (i := 0) (N := some 27) (v := ?_) (a' := ?_) #[true, false, false, false, false, false, false, false, false, false, false, false] rfl rfl (by kernel_rfl) (fun _ _ _ h => h) (Or.inl ⟨by rfl, ?_⟩) ?_ ?_
          rotate_left
          · intro w'
            go_simp
            with_reducible rfl
          rotate_left
          · simp only [Act.put, List.setIfInBounds_toArray, List.set_cons_zero, List.set_cons_succ, i64_w, i32_w]
            rfl
          refine pure_ (i := 1) (N := some 28) (v := ?_) (a' := ?_) #[true, true, false, false, false, false, false, false, false, false, false, false] rfl rfl (by kernel_rfl) (fun _ _ _ h => h) (Or.inl ⟨by rfl, ?_⟩) ?_ ?_
          rotate_left
          · intro w'
            go_simp
            with_reducible rfl
          rotate_left
          · simp only [Act.put, List.setIfInBounds_toArray, List.set_cons_zero, List.set_cons_succ, i64_w, i32_w]
            rfl
          refine pure_ (i := 2) (N := some 29) (v := ?_) (a' := ?_) #[true, true, true, false, false, false, false, false, false, false, false, false] rfl rfl (by kernel_rfl) (fun _ _ _ h => h) (Or.inl ⟨by rfl, ?_⟩) ?_ ?_
          rotate_left
          · intro w'
            go_simp
            with_reducible rfl
          rotate_left
          · simp only [Act.put, List.setIfInBounds_toArray, List.set_cons_zero, List.set_cons_succ, i64_w, i32_w]
            rfl
          refine pure_ (i := 4) (N := some 31) (v := ?_) (a' := ?_) #[true, true, true, false, true, false, false, false, false, false, false, false] rfl rfl (by kernel_rfl) (fun _ _ _ h => h) (Or.inl ⟨by rfl, ?_⟩) ?_ ?_
          rotate_left
          · intro w'
            go_simp
            with_reducible rfl
          rotate_left
          · simp only [Act.put, List.setIfInBounds_toArray, List.set_cons_zero, List.set_cons_succ, i64_w, i32_w]
            rfl
          refine pure_ (i := 5) (N := some 32) (v := ?_) (a' := ?_) #[true, true, true, false, true, true, false, false, false, false, false, false] rfl rfl (by kernel_rfl) (fun _ _ _ h => h) (Or.inl ⟨by rfl, ?_⟩) ?_ ?_
          rotate_left
          · intro w'
            go_simp
            with_reducible rfl
          rotate_left
          · simp only [Act.put, List.setIfInBounds_toArray, List.set_cons_zero, List.set_cons_succ, i64_w, i32_w]
            rfl
          refine pure_ (i := 6) (N := some 33) (v := ?_) (a' := ?_) #[true, true, true, false, true, true, true, false, false, false, false, false] rfl rfl (by kernel_rfl) (fun _ _ _ h => h) (Or.inl ⟨by rfl, ?_⟩) ?_ ?_
          rotate_left
          · intro w'
            go_simp
            with_reducible rfl
          rotate_left
          · simp only [Act.put, List.setIfInBounds_toArray, List.set_cons_zero, List.set_cons_succ, i64_w, i32_w]
            rfl
          refine pure_ (i := 7) (N := some 34) (v := ?_) (a' := ?_) #[true, true, true, false, true, true, true, true, false, false, false, false] rfl rfl (by kernel_rfl) (fun _ _ _ h => h) (Or.inl ⟨by rfl, ?_⟩) ?_ ?_
          rotate_left
          · intro w'
            go_simp
            with_reducible rfl
          rotate_left
          · simp only [Act.put, List.setIfInBounds_toArray, List.set_cons_zero, List.set_cons_succ, i64_w, i32_w]
            rfl
          refine take_ (i := 3) (N := some 30) (v := ?_) (a' := ?_) #[true, true, true, true, true, true, true, true, false, false, false, false] rfl rfl (by kernel_rfl) (fun _ _ _ h => h) (Or.inl ⟨by rfl, ?_⟩) hHeld ?_ ?_
          rotate_left
          · rintro w' ⟨s0, s1⟩
            go_simp
            with_reducible rfl
          rotate_left
          · simp only [Act.put, List.setIfInBounds_toArray, List.set_cons_zero, List.set_cons_succ, i64_w, i32_w]
            rfl
          refine take_ (i := 8) (N := some 35) (v := ?_) (a' := ?_) #[true, true, true, true, true, true, true, true, true, false, false, false] rfl rfl (by kernel_rfl) (fun _ _ _ h => h) (Or.inl ⟨by rfl, ?_⟩) hHeld ?_ ?_
          rotate_left
          · rintro w' ⟨s0, s1⟩
            go_simp
            with_reducible rfl
          rotate_left
          · simp only [Act.put, List.setIfInBounds_toArray, List.set_cons_zero, List.set_cons_succ, i64_w, i32_w]
            rfl
          refine pure_ (i := 9) (N := some 36) (v := ?_) (a' := ?_) #[true, true, true, true, true, true, true, true, true, true, false, false] rfl rfl (by kernel_rfl) (fun _ _ _ h => h) (Or.inl ⟨by rfl, ?_⟩) ?_ ?_
          rotate_left
          · intro w'
            go_simp
            with_reducible rfl
          rotate_left
          · simp only [Act.put, List.setIfInBounds_toArray, List.set_cons_zero, List.set_cons_succ, i64_w, i32_w]
            rfl
          refine pure_ (i := 10) (N := some 37) (v := ?_) (a' := ?_) #[true, true, true, true, true, true, true, true, true, true, true, false] rfl rfl (by kernel_rfl) (fun _ _ _ h => h) (Or.inl ⟨by rfl, ?_⟩) ?_ ?_
          rotate_left
          · intro w'
            go_simp
            with_reducible rfl
          rotate_left
          · simp only [Act.put, List.setIfInBounds_toArray, List.set_cons_zero, List.set_cons_succ, i64_w, i32_w]
            rfl
          refine last_ (i := 11) (N := none) #[true, true, true, true, true, true, true, true, true, true, true, true] rfl rfl (by kernel_rfl) (by decide) (fun K hK => ?_)
          refine skip_ (w1 := ?_) (by rfl) rfl ?_ ?_
          rotate_left
          · go_simp
            rfl
          refine hK.out _ _ ?_
          clear hK K
          refine done_ (by kernel_rfl) ?_
          clear x0 x1 x2 x3
          have hne : g ≠ bx := by omega
          have ng : some g ≠ v.ownBlock := own_ne (g := g) (t := 92) HB.out.own HS.out (by decide)
          have nbx : some bx ≠ v.ownBlock := by intro e; have := own_lt HB.out.own bx e.symm; omega
          have HX : (wc.setCell ⟨bx, 1, none⟩ (.string (s.extract a.toNat a'.toNat))).drew.heap[bx]? = some (.cells #[.int .i64 1, .string (s.extract a.toNat a'.toNat), .int .i64 line, .int .i64 col] 94 (0, 0)) := by
            refine blk_drew ?_; have := blk_set MX.out.1 1 (.string (s.extract a.toNat a'.toNat)); simpa using this
          have hS1 : Scn (wc.setCell ⟨bx, 1, none⟩ (.string (s.extract a.toNat a'.toNat))).drew g s a' l' c' v f5 f6 f7 := blk_far (p := ⟨bx, 1, none⟩) MS.out hne _
          have hG1 : w.grownBy (wc.setCell ⟨bx, 1, none⟩ (.string (s.extract a.toNat a'.toNat))).drew (some g) := grown_drew (grown_setNew MG.out hbx _)
          generalize (wc.setCell ⟨bx, 1, none⟩ (.string (s.extract a.toNat a'.toNat))).drew = W1 at HX hS1 hG1 ⊢
          have htx : (s.extract a.toNat a'.toNat).data.toList = (Lx.nameL (suf s a) (line, col)).1 := by rw [LR.out.1, HE.out]; simp
          have hr2 : (Lx.nameL (suf s a) (line, col)).2 = (suf s a', (l', c')) := by rw [LR.out.2, HE.out]
          have hsz : (s.extract a.toNat a'.toNat).size = (Lx.nameL (suf s a) (line, col)).1.length := by rw [← htx, Array.length_toList]; rfl
          generalize s.extract a.toNat a'.toNat = tx at HX htx hsz ⊢
          have hO1 := HB.out.own.kept hG1 (Or.inr (Ne.symm ng))
          have TX := Aside0.mk (And.intro htx hr2)
          have x0 := (blk_cell HX 0).trans rfl
          have x1 := (blk_cell HX 1).trans rfl
          have x2 := (blk_cell HX 2).trans rfl
          have x3 := (blk_cell HX 3).trans rfl
          have x4 : W1.cell? ⟨g, 4, none⟩ = some v := (blk_cell hS1 4).trans rfl
          have KS1 := Aside0.mk hS1
          have KG1 := Aside0.mk hG1
          have HO := hO1
          clear hG1 htx hr2 HX
          by_cases hlen : 32 < (Lx.nameL (suf s a) (line, col)).1.length
          · have hl : (32 : Int) < (tx.size : Int) := by omega
            have RS : Aside0 (nameRes (suf s a) (line, col) = .error ⟨(line, col), 6⟩) := ⟨by unfold nameRes; rw [if_pos hlen]⟩
            clear hlen hsz hO1 HO
            go_wp2_with (go_at_call 51; refine (fail_calls KS1.out _ _ _ _ _).mono ?_; rintro e w3 ⟨rfl, hS3, hG3⟩)
            go_ret
            rw [RS.out]
            exact ⟨rfl, a', l', c', v, hS3, (below_grown KG1.out hge hlt).trans (below_grown hG3 hge KS1.out.lt)⟩
          · have hl : (tx.size : Int) ≤ 32 := by omega
            have RS : Aside0 (nameRes (suf s a) (line, col) = .ok (⟨1, (Lx.nameL (suf s a) (line, col)).1, (line, col)⟩, (suf s a', (l', c')))) := ⟨by unfold nameRes; rw [if_neg hlen, TX.out.2]⟩
            clear hlen hsz hO1
            go_wp2_with fail
            have nW : g < W1.heap.size := KS1.out.lt
            have hsz : bx < W1.heap.size := World.block_lt_of_cell? W1 ⟨bx, 0, none⟩ x0
            have hW1 : b ≤ W1.heap.size := by omega
            have zf : W1.frozen? ⟨g, 4, none⟩ = false := blk_frozen KS1.out 4
            have hgW : g < W1.heap.size := nW
            have AL : ∀ {a u o}, W1.cell? a = some u → (W1.alloc o).drew.cell? a = some u := fun {a u o} h => (World.cell?_alloc_some W1 a o (by rw [h]; rfl)).trans h
            have AF : ∀ {o}, W1.frozen? ⟨g, 4, none⟩ = false → (W1.alloc o).drew.frozen? ⟨g, 4, none⟩ = false := fun {o} _ => blk_frozen ((KS1.out.alloc o).drew) 4
            have hz0 := HI.out.1
            have hz1 := HI.out.2.1
            have hz2 := HI.out.2.2
            refine start_ (n := 11) (S := fun w' => w'.cell? ⟨g, 4, none⟩ = some v ∧ w'.cell? ⟨bx, 0, none⟩ = some (.int .i64 1) ∧ w'.cell? ⟨bx, 1, none⟩ = some (.string tx) ∧ w'.cell? ⟨bx, 2, none⟩ = some (.int .i64 line) ∧ w'.cell? ⟨bx, 3, none⟩ = some (.int .i64 col)) (ds := [10]) #[false, false, false, false, false, false, false, false, false, false, false] (by kernel_rfl) rfl rfl ⟨x4, x0, x1, x2, x3⟩ (fun hHeld => ?_)
            refine pure_ (i := 0) (N := some 45) (v := ?_) (a' := ?_) #[true, false, false, false, false, false, false, false, false, false, false] rfl rfl (by kernel_rfl) (fun _ _ _ h => h) (Or.inl ⟨by rfl, ?_⟩) ?_ ?_
            rotate_left
            · intro w'
              go_simp
              with_reducible rfl
            rotate_left
            · simp only [Act.put, List.setIfInBounds_toArray, List.set_cons_zero, List.set_cons_succ, i64_w, i32_w]
              rfl
            refine pure_ (i := 1) (N := some 46) (v := ?_) (a' := ?_) #[true, true, false, false, false, false, false, false, false, false, false] rfl rfl (by kernel_rfl) (fun _ _ _ h => h) (Or.inl ⟨by rfl, ?_⟩) ?_ ?_
            rotate_left
            · intro w'
              go_simp
              with_reducible rfl
            rotate_left
            · simp only [Act.put, List.setIfInBounds_toArray, List.set_cons_zero, List.set_cons_succ, i64_w, i32_w]
              rfl
            refine pure_ (i := 2) (N := some 47) (v := ?_) (a' := ?_) #[true, true, true, false, false, false, false, false, false, false, false] rfl rfl (by kernel_rfl) (fun _ _ _ h => h) (Or.inl ⟨by rfl, ?_⟩) ?_ ?_
            rotate_left
            · intro w'
              go_simp
              with_reducible rfl
            rotate_left
            · simp only [Act.put, List.setIfInBounds_toArray, List.set_cons_zero, List.set_cons_succ, i64_w, i32_w]
              rfl
            refine pure_ (i := 3) (N := some 48) (v := ?_) (a' := ?_) #[true, true, true, true, false, false, false, false, false, false, false] rfl rfl (by kernel_rfl) (fun _ _ _ h => h) (Or.inl ⟨by rfl, ?_⟩) ?_ ?_
            rotate_left
            · intro w'
              go_simp
              with_reducible rfl
            rotate_left
            · simp only [Act.put, List.setIfInBounds_toArray, List.set_cons_zero, List.set_cons_succ, i64_w, i32_w]
              rfl
            refine take_ (i := 4) (N := some 49) (v := ?_) (a' := ?_) #[true, true, true, true, true, false, false, false, false, false, false] rfl rfl (by kernel_rfl) (fun _ _ _ h => h) (Or.inl ⟨by rfl, ?_⟩) hHeld ?_ ?_
            rotate_left
            · rintro w' ⟨s0, s1, s2, s3, s4⟩
              go_simp
              with_reducible rfl
            rotate_left
            · simp only [Act.put, List.setIfInBounds_toArray, List.set_cons_zero, List.set_cons_succ, i64_w, i32_w]
              rfl
            refine take_ (i := 5) (N := some 50) (v := ?_) (a' := ?_) #[true, true, true, true, true, true, false, false, false, false, false] rfl rfl (by kernel_rfl) (fun _ _ _ h => h) (Or.inl ⟨by rfl, ?_⟩) hHeld ?_ ?_
            rotate_left
            · rintro w' ⟨s0, s1, s2, s3, s4⟩
              go_simp
              with_reducible rfl
            rotate_left
            · simp only [Act.put, List.setIfInBounds_toArray, List.set_cons_zero, List.set_cons_succ, i64_w, i32_w]
              rfl
            refine one_ (i := 6) (N := some 51) #[true, true, true, true, true, true, true, false, false, false, false] rfl rfl (by kernel_rfl) (by decide) (fun K hK => ?_)
            refine value_ (w1 := ?_) (v := ?_) (by rfl) rfl ?_ ?_
            rotate_left 2
            · go_simp
              constructor
              · rfl
              · rfl
            refine hK.out _ _ ⟨(AL x4), (AL x0), (AL x1), (AL x2), (AL x3)⟩ (fun hHeld => ?_)
            clear hK K
            refine norm_ (a' := ?_) ?_ ?_
            rotate_left
            · show Act.put _ (some 51) _ = _
              simp only [Act.put, List.setIfInBounds_toArray, List.set_cons_zero, List.set_cons_succ, i64_w, i32_w]
              rfl
            refine one_ (i := 7) (N := some 52) #[true, true, true, true, true, true, true, true, false, false, false] rfl rfl (by kernel_rfl) (by decide) (fun K hK => ?_)
            refine step_append_lies _ (by rfl) _ _ _ (by rfl) b 94 i0 _ 4 40 Try.underlying75 hi0 hz0 hz1 hz2 rfl (by omega) v n xs (by rfl) ((HO.alloc _).drew) ⟨W1.heap.size, 0, none⟩ 1 1 [.int .i64 1, .string tx, .int .i64 line, .int .i64 col] (by rfl) (by rfl) (World.news_of_block (cs := #[.int .i64 1, .string tx, .int .i64 line, .int .i64 col]) (t := 94) (fr := (0, 0)) (heap_alloc_new W1 _)) (by simp [Value.oneCell']) (by omega) (by unfold maxLen; omega) (by omega) (by simp; omega) (W1.heap.size + 1) (by simp) ?_
            intro gg cap w1 hown1 hgrow hat hlt1
            have kf : ∀ a u, a.block < W1.heap.size → some a.block ≠ v.ownBlock → W1.cell? a = some u → w1.cell? a = some u := fun a u h1 h2 h3 => (hgrow.cell_far a (by simp; omega) h2).trans (AL h3)
            refine hK.out _ _ ⟨(kf _ _ hgW ng x4), (kf _ _ hsz nbx x0), (kf _ _ hsz nbx x1), (kf _ _ hsz nbx x2), (kf _ _ hsz nbx x3)⟩ (fun hHeld => ?_)
            clear hK K
            refine norm_ (a' := ?_) ?_ ?_
            rotate_left
            · show Act.put _ (some 52) _ = _
              simp only [Act.put, List.setIfInBounds_toArray, List.set_cons_zero, List.set_cons_succ, i64_w, i32_w]
              rfl
            refine pure_ (i := 8) (N := some 53) (v := ?_) (a' := ?_) #[true, true, true, true, true, true, true, true, true, false, false] rfl rfl (by kernel_rfl) (fun _ _ _ h => h) (Or.inl ⟨by rfl, ?_⟩) ?_ ?_
            rotate_left
            · intro w'
              go_simp
              with_reducible rfl
            rotate_left
            · simp only [Act.put, List.setIfInBounds_toArray, List.set_cons_zero, List.set_cons_succ, i64_w, i32_w]
              rfl
            refine pure_ (i := 9) (N := some 54) (v := ?_) (a' := ?_) #[true, true, true, true, true, true, true, true, true, true, false] rfl rfl (by kernel_rfl) (fun _ _ _ h => h) (Or.inl ⟨by rfl, ?_⟩) ?_ ?_
            rotate_left
            · intro w'
              go_simp
              with_reducible rfl
            rotate_left
            · simp only [Act.put, List.setIfInBounds_toArray, List.set_cons_zero, List.set_cons_succ, i64_w, i32_w]
              rfl
            refine last_ (i := 10) (N := none) #[true, true, true, true, true, true, true, true, true, true, true] rfl rfl (by kernel_rfl) (by decide) (fun K hK => ?_)
            have z4 : w1.frozen? ⟨g, 4, none⟩ = false := (hgrow.frozen_far ⟨g, 4, none⟩ (by simp; omega) ng).trans (AF zf)
            have y4 := kf ⟨g, 4, none⟩ _ hgW ng x4
            refine skip_ (w1 := ?_) (by rfl) rfl ?_ ?_
            rotate_left
            · go_simp
              rfl
            refine hK.out _ _ ?_
            clear hK K
            refine done_ (by kernel_rfl) ?_
            go_wp2
            go_ret
            rw [RS.out]
            have fin := append_close (P := True) (ys := [.int .i64 1, .string tx, .int .i64 line, .int .i64 col]) hgW hge ((Below.refl b W1)) KS1.out HO hgrow hown1 ng trivial
            obtain ⟨-, v', hs', hb'⟩ := fin
            exact ⟨rfl, tx, v', a', TX.out.1, rfl, LT.out, hs', (below_grown KG1.out hge hlt).trans hb'⟩
end Go.Proofs.Ytdbkooliafkcgaa.Lw
