/- Parse, SameNode, Same, Proper as functions of the print's form. -/
import Derived.Test.YtgllncnfhiiobaaSynB
import Derived.Test.YtgllncnfhiiobaaSynC
set_option linter.unusedVariables false
set_option linter.unusedSimpArgs false
namespace Go.Proofs.Ytgllncnfhiiobaa.P
open Go.RowKit Go.Proofs.YtgllncnfhiiobaaW.PrintWords Go.Proofs.YtgllncnfhiiobaaW.PrintLast Go.Proofs.YtgllncnfhiiobaaW.PrintMore Go.Proofs.Ytgllncnfhiiobaa Go.Proofs.Ytgllncnfhiiobaa.Lw Go.Proofs.Ytgllncnfhiiobaa.Sw

def parseT : PR S25 → ByteArray × List S51 × Int × Int × Int
  | .bad l k x => (⟨#[]⟩, [], l, k, x)
  | .ok g _ => (g.f0, g.f1, 0, 0, 0)
def syntax_Parse.f (a0 : ByteArray) : Option (ByteArray × List S51 × Int × Int × Int) := (parseR a0).map parseT
theorem syntax_Parse.calls (a0 : ByteArray) (r1 : ByteArray) (r2 : List S51) (r3 r4 r5 : Int) (w : World) (h : syntax_Parse.f a0 = some (r1, r2, r3, r4, r5)) :
    Calls Try.prog 8 #[.string a0] w fun e w' => ∃ v0_ : Value, e = .returned (.tuple #[.agg #[.string r1, v0_], .agg #[.int .i64 r3, .int .i64 r4, .int .i64 r5]]) ∧ Kd.R k51 51 w' w.heap.size (fun _ => True) v0_ r2 ∧ Below w.heap.size w w' := by
  unfold syntax_Parse.f at h
  cases hp : parseR a0 with
  | none => rw [hp] at h; cases h
  | some r =>
    rw [hp] at h
    have h := Option.some.inj h
    refine (parse_calls hp).mono fun e w' hh => ?_
    cases r with
    | bad l k x =>
      simp only [parseT, Prod.mk.injEq] at h
      obtain ⟨rfl, rfl, rfl, rfl, rfl⟩ := h
      exact ⟨_, hh.2, Kd.R_nil _ _ _ _ _, hh.1⟩
    | ok g i =>
      simp only [parseT, Prod.mk.injEq] at h
      obtain ⟨rfl, rfl, rfl, rfl, rfl⟩ := h
      obtain ⟨hb, v, he, hv⟩ := hh
      exact ⟨v, he, hv, hb⟩
def syntax_Same.f (a0 : ByteArray) (a1 : List S51) (b0 : ByteArray) (b1 : List S51) : Option Bool := some (a0.toList == b0.toList && sameR a1 b1)
theorem syntax_Same.calls (a0 : ByteArray) (A : Option Addr) (c : Nat) (a1 : List S51) (b0 : ByteArray) (B : Option Addr) (d : Nat) (b1 : List S51) (r : Bool) (w : World) (hA : k51.C w A a1.length a1) (hc : a1.length ≤ c) (hB : k51.C w B b1.length b1) (hd : b1.length ≤ d)
    (h : syntax_Same.f a0 a1 b0 b1 = some r) : Calls Try.prog 17 #[.agg #[.string a0, .slice A a1.length c], .agg #[.string b0, .slice B b1.length d]] w fun e w' => e = .returned (.bool r) ∧ Below w.heap.size w w' := by
  cases h
  exact same_calls ⟨a0, a1⟩ ⟨b0, b1⟩ A B c d w hA hc hB hd
def syntax_Proper.f (a0 : ByteArray) (a1 : List S51) : Option Bool := some (propG ⟨a0, a1⟩)
theorem syntax_Proper.calls (a0 : ByteArray) (A : Option Addr) (c : Nat) (a1 : List S51) (r : Bool) (w : World) (hA : k51.C w A a1.length a1) (hc : a1.length ≤ c)
    (h : syntax_Proper.f a0 a1 = some r) : Calls Try.prog 12 #[.agg #[.string a0, .slice A a1.length c]] w fun e w' => e = .returned (.bool r) ∧ Below w.heap.size w w' := by
  cases h
  exact Proper_calls ⟨a0, a1⟩ A c w hA hc
end Go.Proofs.Ytgllncnfhiiobaa.P
