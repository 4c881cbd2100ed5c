/- LexNames: a good name is what the document says, and is scanned as one token; for every argument. -/
import Derived.Test.YtohbjgckcbdegaaPx9
import Derived.Test.YtohbjgckcbdegaaLexRefA
set_option linter.unusedVariables false
set_option linter.unusedSimpArgs false
namespace Go.Proofs.Ytohbjgckcbdegaa.Pure
open Go.RowKit Go.Proofs.Ytohbjgckcbdegaa.P Go.Proofs.YtohbjgckcbdegaaW.PrintWords Go.Proofs.YtohbjgckcbdegaaW.PrintLast Go.Proofs.Ytohbjgckcbdegaa

theorem speaks_true : primerlaw04_speaks.f = some true := by kernel_rfl

theorem lexLetter_ref (c : UInt8) : lex_letter.f (c.toNat : Int) = some (Lx.letter c) := by
  revert c
  exact all_bytes (by decide +kernel)
theorem lexInName_ref (c : UInt8) : lex_inName.f (c.toNat : Int) = some (Lx.inName c) := by
  revert c
  exact all_bytes (by decide +kernel)

/-- A good name. -/
def good (l : List UInt8) : Bool := match l with | [] => false | c :: cs => decide (l.length ≤ 32) && Lx.letter c && l.all Lx.inName

theorem lexGood_loop {s : ByteArray} (hs : s.size ≤ 1000) (l : List UInt8) : ∀ (i : Nat) (p : Int × Int), Pos s i l p →
    Ev (fun k => lex_Good.l0 k s (s.size : Int) i) (l.all Lx.inName) := by
  induction l with
  | nil =>
    intro i p h
    have := h.nil
    refine Ev.succ ?_
    simp only [lex_Good.l0]
    exact Ev.neg (by omega) Ev.const
  | cons c cs ih =>
    intro i p h
    have hlt := h.lt
    refine Ev.succ ?_
    simp only [lex_Good.l0]
    refine Ev.pos (by omega) (Ev.pos (by omega) (Ev.pos (by omega) ?_))
    rw [h.bt, lexInName_ref, wr_nat _ (by omega)]
    simp only [Option.bind_some]
    by_cases hc : Lx.inName c = true
    · refine Ev.pos hc ?_
      rw [List.all_cons, hc, Bool.true_and]
      exact ih _ _ h.next
    · refine Ev.neg hc ?_
      have : Lx.inName c = false := by simpa using hc
      rw [List.all_cons, this, Bool.false_and]
      exact Ev.const
theorem lexGood_ref {s : ByteArray} (hs : s.size ≤ 1000) : Ev (fun k => lex_Good.f k s) (good s.data.toList) := by
  have hl : s.toList = s.data.toList := ByteArray.toList_eq s
  have hlen := length_data s
  have e : ∀ b : Bool, Ev (fun k => lex_Good.j0 k s b) (!b && s.data.toList.all Lx.inName) := by
    intro b
    refine Ev.succ ?_
    simp only [lex_Good.j0]
    cases b
    · exact Ev.neg (by simp) (by simpa using lexGood_loop hs _ 0 _ (Pos.start s))
    · exact Ev.pos rfl Ev.const
  unfold lex_Good.f
  rw [hl]
  cases hd : s.data.toList with
  | nil =>
    refine Ev.pos rfl ?_
    exact e true
  | cons c cs =>
    refine Ev.neg (by simp) ?_
    rw [hd] at hlen
    have hp : Pos s 0 (c :: cs) (1, 1) := by have := Pos.start s; rwa [hd] at this
    by_cases h32 : s.size ≤ 32
    · refine Ev.neg (by omega) (Ev.pos (by simp at hlen; omega) ?_)
      have hb := hp.bt
      rw [show ((0 : Nat) : Int) = 0 from rfl] at hb
      rw [hb, lexLetter_ref]
      simp only [Option.bind_some]
      have := e (!Lx.letter c)
      rw [hd] at this
      simpa [good, hlen, h32] using this
    · refine Ev.pos (by omega) ?_
      have := e true
      simpa [good, hlen, h32] using this

theorem refGood_loop {s : ByteArray} (hs : s.size ≤ 1000) (l : List UInt8) : ∀ (i : Nat) (p : Int × Int), Pos s i l p → 1 ≤ i →
    Ev (fun k => primerref04_Good.l0 k s i) (l.all Lx.inName && decide (s.size ≤ 32)) := by
  induction l with
  | nil =>
    intro i p h hi
    have := h.nil
    refine Ev.succ ?_
    simp only [primerref04_Good.l0]
    refine Ev.neg (by omega) (Ev.pos (by omega) (Ev.fixed ?_))
    simp
    omega
  | cons c cs ih =>
    intro i p h hi
    have hlt := h.lt
    refine Ev.succ ?_
    simp only [primerref04_Good.l0]
    refine Ev.pos (by omega) (Ev.neg (by omega) (Ev.pos (by omega) ?_))
    rw [h.bt, rest_ref, wr_nat _ (by omega)]
    simp only [Option.bind_some]
    by_cases hc : Lx.inName c = true
    · refine Ev.pos hc ?_
      rw [List.all_cons, hc, Bool.true_and]
      exact ih _ _ h.next (by omega)
    · refine Ev.neg hc ?_
      have : Lx.inName c = false := by simpa using hc
      rw [List.all_cons, this, Bool.false_and, Bool.false_and]
      exact Ev.const
theorem refGood_ref {s : ByteArray} (hs : s.size ≤ 1000) : Ev (fun k => primerref04_Good.f k s) (good s.data.toList) := by
  have hlen := length_data s
  unfold primerref04_Good.f
  refine Ev.succ ?_
  simp only [primerref04_Good.l0]
  cases hd : s.data.toList with
  | nil =>
    rw [hd] at hlen
    simp only [List.length_nil] at hlen
    exact Ev.neg (by omega) (Ev.neg (by omega) Ev.const)
  | cons c cs =>
    rw [hd] at hlen
    simp only [List.length_cons] at hlen
    have hp : Pos s 0 (c :: cs) (1, 1) := by have := Pos.start s; rwa [hd] at this
    have hb := hp.bt
    rw [show ((0 : Nat) : Int) = 0 from rfl] at hb
    rw [hb, letter_ref, rest_ref]
    simp only [Option.bind_some]
    refine Ev.pos (by omega) (Ev.pos (by trivial) (Ev.pos (by omega) ?_))
    by_cases hlt : Lx.letter c = true
    · have hin := Lx.letter_inName hlt
      refine Ev.pos hlt (Ev.pos hin ?_)
      have := refGood_loop hs cs 1 _ hp.next (by omega)
      rw [show wrap64 ((0 : Int) + 1) = ((1 : Nat) : Int) from wr_int 1 (by omega) (by omega)]
      refine this.eq' ?_
      simp [good, hlt, hin, hlen, Bool.and_comm]
    · refine Ev.neg hlt ?_
      refine Ev.fixed ?_
      simp [good, hlt]
theorem nameL_good (l : List UInt8) : ∀ p : Int × Int, l.all Lx.inName = true → (Lx.nameL l p).1 = l ∧ (Lx.nameL l p).2.1 = [] := by
  induction l with
  | nil => intro p _; exact ⟨rfl, rfl⟩
  | cons c cs ih =>
    intro p h
    rw [List.all_cons, Bool.and_eq_true] at h
    unfold Lx.nameL
    rw [if_pos h.1]
    obtain ⟨h1, h2⟩ := ih (Lx.adv c p) h.2
    exact ⟨by simp [h1], h2⟩
theorem letter_skip {c : UInt8} (h : Lx.letter c = true) : c.toNat ≠ 35 ∧ Lx.blank c = false := by
  exact all_bytes (P := fun c => Lx.letter c = true → c.toNat ≠ 35 ∧ Lx.blank c = false) (by decide +kernel) c h
theorem scan_good (l : List UInt8) (h : good l = true) : ∃ p, Lx.scan l = .ok [⟨1, l, (1, 1)⟩, ⟨4, [], p⟩] := by
  cases l with
  | nil => simp [good] at h
  | cons c cs =>
    simp only [good, Bool.and_eq_true, decide_eq_true_eq] at h
    obtain ⟨⟨h32, hlt⟩, hall⟩ := h
    obtain ⟨h35, hb⟩ := letter_skip hlt
    obtain ⟨hn1, hn2⟩ := nameL_good (c :: cs) (1, 1) hall
    refine ⟨(Lx.nameL (c :: cs) (1, 1)).2.2, ?_⟩
    unfold Lx.scan
    rw [if_neg (by omega)]
    simp only [List.length_cons]
    unfold Lx.scanF
    have hs : Lx.skip false (c :: cs) (1, 1) = (c :: cs, (1, 1)) := by simp [Lx.skip, h35, hb]
    rw [hs]
    have ht : Lx.token c cs (1, 1) = .ok (⟨1, c :: cs, (1, 1)⟩, [], (Lx.nameL (c :: cs) (1, 1)).2.2) := by
      unfold Lx.token
      rw [if_pos hlt, if_neg (by rw [hn1]; simp at h32 ⊢; omega)]
      rw [hn1]
      congr 2
      exact Prod.ext hn2 rfl
    simp only [ht]
    unfold Lx.scanF
    simp [Lx.skip]
theorem LexNames : primerlaw04_LexNames.Pure := by
  intro a _
  apply Ev.at
  unfold primerlaw04_LexNames.f
  rw [speaks_true]
  simp only [Option.bind_some, if_true]
  by_cases h200 : a.size ≤ 200
  · refine Ev.neg (by omega) (Ev.bind (lexGood_ref (by omega)) (Ev.bind (refGood_ref (by omega)) ?_))
    refine Ev.neg (by simp) ?_
    unfold lex_Scan.f
    simp only [Option.bind_some]
    by_cases hg : good a.data.toList = true
    · obtain ⟨p, hp⟩ := scan_good _ hg
      rw [hg, hp]
      refine Ev.fixed ?_
      simp [toS, rd_T31, ByteArray.toList_eq]
    · rw [show good a.data.toList = false by simpa using hg]
      refine Ev.fixed ?_
      simp
  · exact Ev.pos (by omega) Ev.const
end Go.Proofs.Ytohbjgckcbdegaa.Pure
