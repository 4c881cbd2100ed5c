/- Parse, Scan, Check, Table as functions of the print's form. -/
import Derived.Test.YtdbkooliafkcgaaSymF
import Derived.Test.YtdbkooliafkcgaaLexExt
set_option linter.unusedVariables false
set_option linter.unusedSimpArgs false
namespace Go.Proofs.Ytdbkooliafkcgaa.P
open Go.RowKit Go.Proofs.YtdbkooliafkcgaaW.PrintWords Go.Proofs.YtdbkooliafkcgaaW.PrintLast Go.Proofs.YtdbkooliafkcgaaW.PrintMore Go.Proofs.Ytdbkooliafkcgaa Go.Proofs.Ytdbkooliafkcgaa.Lw Go.Proofs.Ytdbkooliafkcgaa.Sw Go.Proofs.Ytdbkooliafkcgaa.Yw

def parseT : PR S25 → ByteArray × List S50 × Int × Int × Int
  | .bad l k x => (⟨#[]⟩, [], l, k, x)
  | .ok g _ => (g.f0, g.f1, 0, 0, 0)
def syntax_Parse.f (a0 : ByteArray) : Option (ByteArray × List S50 × Int × Int × Int) := (parseR a0).map parseT
theorem syntax_Parse.calls (a0 : ByteArray) (r1 : ByteArray) (r2 : List S50) (r3 r4 r5 : Int) (w : World) (h : syntax_Parse.f a0 = some (r1, r2, r3, r4, r5)) :
    Calls Try.prog 18 #[.string a0] w fun e w' => ∃ v0_ : Value, e = .returned (.tuple #[.agg #[.string r1, v0_], .agg #[.int .i64 r3, .int .i64 r4, .int .i64 r5]]) ∧ Kd.R k50 50 w' w.heap.size (fun _ => True) v0_ r2 ∧ Below w.heap.size w w' := by
  unfold syntax_Parse.f at h
  cases hp : parseR a0 with
  | none => rw [hp] at h; cases h
  | some r =>
    rw [hp] at h
    have h := Option.some.inj h
    refine (parse_calls hp).mono fun e w' hh => ?_
    cases r with
    | bad l k x =>
      simp only [parseT, Prod.mk.injEq] at h
      obtain ⟨rfl, rfl, rfl, rfl, rfl⟩ := h
      exact ⟨_, hh.2, Kd.R_nil _ _ _ _ _, hh.1⟩
    | ok g i =>
      simp only [parseT, Prod.mk.injEq] at h
      obtain ⟨rfl, rfl, rfl, rfl, rfl⟩ := h
      obtain ⟨hb, v, he, hv⟩ := hh
      exact ⟨v, he, hv, hb⟩
def symbols_Check.f (a0 : ByteArray) (a1 : List S50) : Option (List S38) := if okG a0 a1 = true then some (checkF a0 a1) else none
theorem symbols_Check.calls (a0 : ByteArray) (A : Option Addr) (c : Nat) (a1 : List S50) (r : List S38) (w : World) (hA : Kd.C k50 w A a1.length a1) (hc : a1.length ≤ c) (h : symbols_Check.f a0 a1 = some r) :
    Calls Try.prog 8 #[.agg #[.string a0, .slice A a1.length c]] w fun e w' => ∃ v0_ : Value, e = .returned v0_ ∧ Kd.R k38 38 w' w.heap.size (fun _ => True) v0_ r ∧ Below w.heap.size w w' := by
  unfold symbols_Check.f at h
  split at h
  · rename_i hg
    cases h
    exact check_calls a0 A c a1 w hg hA
  · cases h
def symbols_Table.f (a0 : ByteArray) (a1 : List S50) : Option (List S45) := if okG a0 a1 = true then some (tableF a1) else none
theorem symbols_Table.calls (a0 : ByteArray) (A : Option Addr) (c : Nat) (a1 : List S50) (r : List S45) (w : World) (hA : Kd.C k50 w A a1.length a1) (hc : a1.length ≤ c) (h : symbols_Table.f a0 a1 = some r) :
    Calls Try.prog 11 #[.agg #[.string a0, .slice A a1.length c]] w fun e w' => ∃ v0_ : Value, e = .returned v0_ ∧ Kd.R k45 45 w' w.heap.size (fun _ => True) v0_ r ∧ Below w.heap.size w w' := by
  unfold symbols_Table.f at h
  split at h
  · rename_i hg
    cases h
    exact table_calls a0 A c a1 w hg hA
  · cases h
end Go.Proofs.Ytdbkooliafkcgaa.P
