/- lex.Scan, strings.Count as functions of the print's form. -/
import Derived.Test.YtdbkooliafkcgaaPx0
import Derived.Test.YtdbkooliafkcgaaLexB
set_option linter.unusedVariables false
set_option linter.unusedSimpArgs false
namespace Go.Proofs.Ytdbkooliafkcgaa.P
open Go.RowKit Go.Proofs.YtdbkooliafkcgaaW.PrintWords Go.Proofs.YtdbkooliafkcgaaW.PrintLast Go.Proofs.YtdbkooliafkcgaaW.PrintMore Go.Proofs.Ytdbkooliafkcgaa Go.Proofs.Ytdbkooliafkcgaa.Lw

def toS (t : Lx.Tok) : S94 := ⟨t.kind, ⟨t.text.toArray⟩, t.p.1, t.p.2⟩
def lex_Scan.f (a0 : ByteArray) : Option (List S94 × Int × Int × Int) :=
  some (match Lx.scan a0.data.toList with
    | .error f => ([], f.p.1, f.p.2, f.code)
    | .ok ts => (ts.map toS, 0, 0, 0))

theorem reps_toks {w : World} {base : Nat} {ok : Nat → Prop} (pre ts : List Lx.Tok) (h : Reps (k94.M w base ok) 4 (pre.map toS) (pre.flatMap tokCells)) : Reps (k94.M w base ok) 4 ((pre ++ ts).map toS) ((pre ++ ts).flatMap tokCells) := by
  induction ts generalizing pre with
  | nil => simpa using h
  | cons t ts ih =>
    have h2 : Reps (k94.M w base ok) 4 ((pre ++ [t]).map toS) ((pre ++ [t]).flatMap tokCells) := by
      rw [List.map_append, List.flatMap_append]
      refine h.snoc (p := toS t) ?_ ?_
      · have := k94_mkM w base ok (toS t)
        simpa [tokCells, toS] using this
      · simp [tokCells]
    have := ih (pre ++ [t]) h2
    simpa using this
theorem lex_Scan.calls (a0 : ByteArray) (r1 : List S94) (r2 r3 r4 : Int) (w : World) (h : lex_Scan.f a0 = some (r1, r2, r3, r4)) :
    Calls Try.prog 27 #[.string a0] w fun e w' => ∃ v0_ : Value, e = .returned (.tuple #[v0_, .agg #[.int .i64 r2, .int .i64 r3, .int .i64 r4]]) ∧ Kd.R k94 94 w' w.heap.size (fun _ => True) v0_ r1 ∧ Below w.heap.size w w' := by
  refine (scan_calls a0 w).mono fun e w' hp => ?_
  unfold lex_Scan.f at h
  unfold ScanP at hp
  cases hs : Lx.scan a0.data.toList with
  | error f =>
    rw [hs] at h hp
    simp only [Option.some.injEq, Prod.mk.injEq] at h
    obtain ⟨rfl, rfl, rfl, rfl⟩ := h
    exact ⟨_, hp.1, Kd.R_nil _ _ _ _ _, hp.2⟩
  | ok ts =>
    rw [hs] at h hp
    simp only [Option.some.injEq, Prod.mk.injEq] at h
    obtain ⟨rfl, rfl, rfl, rfl⟩ := h
    obtain ⟨v, he, ho, hb⟩ := hp
    refine ⟨v, he, ⟨fun _ _ => trivial, ts.flatMap tokCells, by rw [List.length_map]; exact ho, ?_⟩, hb⟩
    exact reps_toks [] ts (Reps.none _ _)

end Go.Proofs.Ytdbkooliafkcgaa.P
