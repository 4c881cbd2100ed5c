/-
  No cell of these rows narrows 'for every input' (looked for: loops, veiled, ifaces, maps, wideKeys, modest, calm, conditions, laid).
  DERIVED. THE GIVEN ROWS OF THIS SEAT. 3 by the template 'for every input the law returns true; each argument reads behind the call as it read before'; 0 by the template 'total and deterministic' (their statements: YtdbkooliafkcgaaTotals.lean).
  GIVEN WITH THE SEED: the statements are not yours to turn. If you find one false, say at which input.
  Laid BY PROGRAM, IN A SANDBOX (cutbox-rows.mjs): the forced cells as the released guide's own fill.sh prints them over the translation 4977a877496939ce… (all of the seat's roots in one cut). By AI agents, Wed Nov 11 2026. No macro, syntax, notation, axiom, sorry.
-/
import Derived.Test.YtdbkooliafkcgaaChecked
import GoSem.Claim
import GoSem.ClaimJoined
import GoSem.ClaimMapViews
import Derived.JoinedTies
import Derived.KernelRfl
namespace Go.Proofs.Ytdbkooliafkcgaa
/- THE CELL 'sum', in the pinned program and in every row, IS THE sha256 OF THE DUMP (.gsa) THAT YtdbkooliafkcgaaProg.lean LOADS. Nothing in Lean hashes anything: it is a label: what it is worth is what the hold of that sum in a sandbox is worth. -/
noncomputable def Try.pinned : Pinned := { name := "ytdbkooliafkcgaa", sum := "4977a877496939ce194c742d9d277fc513e70daf645b8c827a9d47e093cfafbd", checked := Try.checked }
namespace Rows
def none {H : Type} : Left H := { results := [], args := [] }

/-- 'primerlaw07.SymbolsProblems': WHATEVER THE INPUT: true; the input reads as it did. -/
def symbolsProblemsSpec : ChangeSpec := { name := "symbolsProblems", fn := fun _ => fun
  | [d] => { results := [.lit (.bool true)], args := [d] }
  | _ => none }
def symbolsProblemsRow : OpenClaim := { program := "ytdbkooliafkcgaa", sum := "4977a877496939ce194c742d9d277fc513e70daf645b8c827a9d47e093cfafbd", func := "primer/primerlaw07.SymbolsProblems", spec := "symbolsProblems", inPlace := ["internal/bytealg.IndexByteString"], unfollowed := true, recurses := true, apart := false }
def SymbolsProblemsSaid : Prop := symbolsProblemsRow.holds Try.pinned (OpenSpec.ofChange symbolsProblemsSpec)

/-- ITS FALSE NEIGHBOUR: 'it returns false'. Refute it at one input. -/
def symbolsProblemsWrong : ChangeSpec := { name := "symbolsProblems", fn := fun _ => fun
  | [d] => { results := [.lit (.bool false)], args := [d] }
  | _ => none }
def SymbolsProblemsWrongFalsely : Prop := symbolsProblemsRow.holds Try.pinned (OpenSpec.ofChange symbolsProblemsWrong)

/-- 'primerlaw07.SymbolsAdds': WHATEVER THE INPUT: true; the input reads as it did. -/
def symbolsAddsSpec : ChangeSpec := { name := "symbolsAdds", fn := fun _ => fun
  | [d] => { results := [.lit (.bool true)], args := [d] }
  | _ => none }
def symbolsAddsRow : OpenClaim := { program := "ytdbkooliafkcgaa", sum := "4977a877496939ce194c742d9d277fc513e70daf645b8c827a9d47e093cfafbd", func := "primer/primerlaw07.SymbolsAdds", spec := "symbolsAdds", inPlace := ["internal/bytealg.IndexByteString"], unfollowed := true, recurses := true, apart := false }
def SymbolsAddsSaid : Prop := symbolsAddsRow.holds Try.pinned (OpenSpec.ofChange symbolsAddsSpec)

/-- ITS FALSE NEIGHBOUR: 'it returns false'. Refute it at one input. -/
def symbolsAddsWrong : ChangeSpec := { name := "symbolsAdds", fn := fun _ => fun
  | [d] => { results := [.lit (.bool false)], args := [d] }
  | _ => none }
def SymbolsAddsWrongFalsely : Prop := symbolsAddsRow.holds Try.pinned (OpenSpec.ofChange symbolsAddsWrong)

/-- 'primerlaw07.SymbolsTables': WHATEVER THE INPUT: true; the input reads as it did. -/
def symbolsTablesSpec : ChangeSpec := { name := "symbolsTables", fn := fun _ => fun
  | [d] => { results := [.lit (.bool true)], args := [d] }
  | _ => none }
def symbolsTablesRow : OpenClaim := { program := "ytdbkooliafkcgaa", sum := "4977a877496939ce194c742d9d277fc513e70daf645b8c827a9d47e093cfafbd", func := "primer/primerlaw07.SymbolsTables", spec := "symbolsTables", inPlace := ["internal/bytealg.IndexByteString"], unfollowed := true, recurses := true, apart := false }
def SymbolsTablesSaid : Prop := symbolsTablesRow.holds Try.pinned (OpenSpec.ofChange symbolsTablesSpec)

/-- ITS FALSE NEIGHBOUR: 'it returns false'. Refute it at one input. -/
def symbolsTablesWrong : ChangeSpec := { name := "symbolsTables", fn := fun _ => fun
  | [d] => { results := [.lit (.bool false)], args := [d] }
  | _ => none }
def SymbolsTablesWrongFalsely : Prop := symbolsTablesRow.holds Try.pinned (OpenSpec.ofChange symbolsTablesWrong)

/- THE SECOND FORM. 'bulk': how many values and letters a reading holds, each counted each time it is reached (what is shared counts as often as it is met; a slice's spare places count too). A statement '..UptoSaid' is the law's where the arguments, and the package variables that the reading takes, are together of bulk at most 1048576: NARROWER than '..Said'. Prove '..Said' where nothing that the law and all that it calls make is longer than what came in: it says more and counts as full. Else prove '..UptoSaid'. A law counts once. -/
mutual
def uptoBulk {H : Type} : DataW H → Nat
  | .lit (.string bytes) => bytes.length + 1
  | .lit _ => 1
  | .nil => 1
  | .ptr d => uptoBulk d + 1
  | .slice elems spare => uptoBulkAll elems + uptoBulkAll spare + 1
  | .agg parts => uptoBulkAll parts + 1
  | .iface _ d => uptoBulk d + 1
  | .map entries => uptoBulkEntries entries + 1
  | .held _ => 1
def uptoBulkAll {H : Type} : List (DataW H) → Nat
  | [] => 0
  | d :: r => uptoBulk d + uptoBulkAll r
def uptoBulkEntries {H : Type} : List (Lit × DataW H) → Nat
  | [] => 0
  | x :: r => uptoBulkEntry x + uptoBulkEntries r
def uptoBulkEntry {H : Type} : Lit × DataW H → Nat
  | (.string bytes, d) => bytes.length + uptoBulk d + 1
  | (_, d) => uptoBulk d + 1
 end
def uptoSmall : (H : Type) → List (DataW H) → Bool := fun _ ds => decide (uptoBulkAll ds ≤ 1048576)
def OpenSpec.upto (s : _root_.Go.ChangeSpec) : _root_.Go.OpenSpec := { _root_.Go.OpenSpec.ofChange s with cond := some uptoSmall }

/-- 'primerlaw07.SymbolsProblems', WHERE WHAT IT READS IS OF BULK AT MOST 1048576: true; the input reads as it did. -/
def symbolsProblemsUptoRow : OpenClaim := { program := "ytdbkooliafkcgaa", sum := "4977a877496939ce194c742d9d277fc513e70daf645b8c827a9d47e093cfafbd", func := "primer/primerlaw07.SymbolsProblems", spec := "symbolsProblems", inPlace := ["internal/bytealg.IndexByteString"], unfollowed := true, recurses := true, apart := false, narrowed := true }
def SymbolsProblemsUptoSaid : Prop := symbolsProblemsUptoRow.holds Try.pinned (OpenSpec.upto symbolsProblemsSpec)

/-- 'primerlaw07.SymbolsAdds', WHERE WHAT IT READS IS OF BULK AT MOST 1048576: true; the input reads as it did. -/
def symbolsAddsUptoRow : OpenClaim := { program := "ytdbkooliafkcgaa", sum := "4977a877496939ce194c742d9d277fc513e70daf645b8c827a9d47e093cfafbd", func := "primer/primerlaw07.SymbolsAdds", spec := "symbolsAdds", inPlace := ["internal/bytealg.IndexByteString"], unfollowed := true, recurses := true, apart := false, narrowed := true }
def SymbolsAddsUptoSaid : Prop := symbolsAddsUptoRow.holds Try.pinned (OpenSpec.upto symbolsAddsSpec)

/-- 'primerlaw07.SymbolsTables', WHERE WHAT IT READS IS OF BULK AT MOST 1048576: true; the input reads as it did. -/
def symbolsTablesUptoRow : OpenClaim := { program := "ytdbkooliafkcgaa", sum := "4977a877496939ce194c742d9d277fc513e70daf645b8c827a9d47e093cfafbd", func := "primer/primerlaw07.SymbolsTables", spec := "symbolsTables", inPlace := ["internal/bytealg.IndexByteString"], unfollowed := true, recurses := true, apart := false, narrowed := true }
def SymbolsTablesUptoSaid : Prop := symbolsTablesUptoRow.holds Try.pinned (OpenSpec.upto symbolsTablesSpec)

end Rows
end Go.Proofs.Ytdbkooliafkcgaa
