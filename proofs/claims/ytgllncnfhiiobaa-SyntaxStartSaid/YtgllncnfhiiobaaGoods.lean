/- Which names are good, by the program and by the document's answer. -/
import Derived.Test.YtgllncnfhiiobaaPx3
import Derived.Test.YtgllncnfhiiobaaEvPos
set_option linter.unusedVariables false
set_option linter.unusedSimpArgs false
namespace Go.Proofs.Ytgllncnfhiiobaa.Pure
open Go.RowKit Go.Proofs.Ytgllncnfhiiobaa.P Go.Proofs.YtgllncnfhiiobaaW.PrintWords Go.Proofs.YtgllncnfhiiobaaW.PrintLast Go.Proofs.Ytgllncnfhiiobaa

theorem letter_ref (c : UInt8) : primerref04_letter.f (c.toNat : Int) = some (Lx.letter c) := by
  revert c
  exact all_bytes (by decide +kernel)
theorem rest_ref (c : UInt8) : primerref04_rest.f (c.toNat : Int) = some (Lx.inName c) := by
  revert c
  exact all_bytes (by decide +kernel)

theorem lexLetter_ref (c : UInt8) : lex_letter.f (c.toNat : Int) = some (Lx.letter c) := by
  revert c
  exact all_bytes (by decide +kernel)
theorem lexInName_ref (c : UInt8) : lex_inName.f (c.toNat : Int) = some (Lx.inName c) := by
  revert c
  exact all_bytes (by decide +kernel)

/-- A good name. -/
def good (l : List UInt8) : Bool := match l with | [] => false | c :: cs => decide (l.length ≤ 32) && Lx.letter c && l.all Lx.inName

theorem lexGood_loop {s : ByteArray} (hs : s.size ≤ 140737488351232) (l : List UInt8) : ∀ (i : Nat) (p : Int × Int), Pos s i l p →
    Ev (fun k => lex_Good.l0 k s (s.size : Int) i) (l.all Lx.inName) := by
  induction l with
  | nil =>
    intro i p h
    have := h.nil
    refine Ev.succ ?_
    simp only [lex_Good.l0]
    exact Ev.neg (by omega) Ev.const
  | cons c cs ih =>
    intro i p h
    have hlt := h.lt
    refine Ev.succ ?_
    simp only [lex_Good.l0]
    refine Ev.pos (by omega) (Ev.pos (by omega) (Ev.pos (by omega) ?_))
    rw [h.bt, lexInName_ref, wr_nat _ (by omega)]
    simp only [Option.bind_some]
    by_cases hc : Lx.inName c = true
    · refine Ev.pos hc ?_
      rw [List.all_cons, hc, Bool.true_and]
      exact ih _ _ h.next
    · refine Ev.neg hc ?_
      have : Lx.inName c = false := by simpa using hc
      rw [List.all_cons, this, Bool.false_and]
      exact Ev.const
theorem lexGood_ref {s : ByteArray} (hs : s.size ≤ 140737488351232) : Ev (fun k => lex_Good.f k s) (good s.data.toList) := by
  have hl : s.toList = s.data.toList := ByteArray.toList_eq s
  have hlen := length_data s
  have e : ∀ b : Bool, Ev (fun k => lex_Good.j0 k s b) (!b && s.data.toList.all Lx.inName) := by
    intro b
    refine Ev.succ ?_
    simp only [lex_Good.j0]
    cases b
    · exact Ev.neg (by simp) (by simpa using lexGood_loop hs _ 0 _ (Pos.start s))
    · exact Ev.pos rfl Ev.const
  unfold lex_Good.f
  rw [hl]
  cases hd : s.data.toList with
  | nil =>
    refine Ev.pos rfl ?_
    exact e true
  | cons c cs =>
    refine Ev.neg (by simp) ?_
    rw [hd] at hlen
    have hp : Pos s 0 (c :: cs) (1, 1) := by have := Pos.start s; rwa [hd] at this
    by_cases h32 : s.size ≤ 32
    · refine Ev.neg (by omega) (Ev.pos (by simp at hlen; omega) ?_)
      have hb := hp.bt
      rw [show ((0 : Nat) : Int) = 0 from rfl] at hb
      rw [hb, lexLetter_ref]
      simp only [Option.bind_some]
      have := e (!Lx.letter c)
      rw [hd] at this
      simpa [good, hlen, h32] using this
    · refine Ev.pos (by omega) ?_
      have := e true
      simpa [good, hlen, h32] using this

theorem refGood_loop {s : ByteArray} (hs : s.size ≤ 140737488351232) (l : List UInt8) : ∀ (i : Nat) (p : Int × Int), Pos s i l p → 1 ≤ i →
    Ev (fun k => primerref04_Good.l0 k s i) (l.all Lx.inName && decide (s.size ≤ 32)) := by
  induction l with
  | nil =>
    intro i p h hi
    have := h.nil
    refine Ev.succ ?_
    simp only [primerref04_Good.l0]
    refine Ev.neg (by omega) (Ev.pos (by omega) (Ev.fixed ?_))
    simp
    omega
  | cons c cs ih =>
    intro i p h hi
    have hlt := h.lt
    refine Ev.succ ?_
    simp only [primerref04_Good.l0]
    refine Ev.pos (by omega) (Ev.neg (by omega) (Ev.pos (by omega) ?_))
    rw [h.bt, rest_ref, wr_nat _ (by omega)]
    simp only [Option.bind_some]
    by_cases hc : Lx.inName c = true
    · refine Ev.pos hc ?_
      rw [List.all_cons, hc, Bool.true_and]
      exact ih _ _ h.next (by omega)
    · refine Ev.neg hc ?_
      have : Lx.inName c = false := by simpa using hc
      rw [List.all_cons, this, Bool.false_and, Bool.false_and]
      exact Ev.const
theorem refGood_ref {s : ByteArray} (hs : s.size ≤ 140737488351232) : Ev (fun k => primerref04_Good.f k s) (good s.data.toList) := by
  have hlen := length_data s
  unfold primerref04_Good.f
  refine Ev.succ ?_
  simp only [primerref04_Good.l0]
  cases hd : s.data.toList with
  | nil =>
    rw [hd] at hlen
    simp only [List.length_nil] at hlen
    exact Ev.neg (by omega) (Ev.neg (by omega) Ev.const)
  | cons c cs =>
    rw [hd] at hlen
    simp only [List.length_cons] at hlen
    have hp : Pos s 0 (c :: cs) (1, 1) := by have := Pos.start s; rwa [hd] at this
    have hb := hp.bt
    rw [show ((0 : Nat) : Int) = 0 from rfl] at hb
    rw [hb, letter_ref, rest_ref]
    simp only [Option.bind_some]
    refine Ev.pos (by omega) (Ev.pos (by trivial) (Ev.pos (by omega) ?_))
    by_cases hlt : Lx.letter c = true
    · have hin := Lx.letter_inName hlt
      refine Ev.pos hlt (Ev.pos hin ?_)
      have := refGood_loop hs cs 1 _ hp.next (by omega)
      rw [show wrap64 ((0 : Int) + 1) = ((1 : Nat) : Int) from wr_int 1 (by omega) (by omega)]
      refine this.eq' ?_
      simp [good, hlt, hin, hlen, Bool.and_comm]
    · refine Ev.neg hlt ?_
      refine Ev.fixed ?_
      simp [good, hlt]
end Go.Proofs.Ytgllncnfhiiobaa.Pure
