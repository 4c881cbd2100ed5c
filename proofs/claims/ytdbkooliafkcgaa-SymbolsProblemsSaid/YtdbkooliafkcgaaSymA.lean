/- A map from strings that a call makes, as a function: to numbers, to bools. -/
import Derived.Test.YtdbkooliafkcgaaLexA
import Derived.Maps.OwnOps
import Derived.Maps.OwnSet
import Derived.Maps.Views
import Derived.StringKeys
set_option linter.unusedVariables false
set_option linter.unusedSimpArgs false
namespace Go.Proofs.Ytdbkooliafkcgaa.Yw
open Go.RowKit Go.Maps Go.WideMaps Go.Proofs.YtdbkooliafkcgaaW.PrintWords Go.Proofs.Ytdbkooliafkcgaa

theorem strLaw : Keyed Try.prog 9 := string_keyed Try.underlying9
/-- Block b is a map of at most n entries that tells f. -/
def MapI (w : World) (b n : Nat) (f : List UInt8 → Option Int) : Prop :=
  ∃ D : DataW Unit, w.ownsMap Try.prog 9 (plainElem Try.prog 3) b n D ∧ ∀ s, Maps.has D (.string s) = (f s).isSome ∧ ∀ c, f s = some c → D.atKey (.string s) (.lit (.int .i64 0)) = .lit (.int .i64 c)
def MapB (w : World) (b n : Nat) (f : List UInt8 → Bool) : Prop :=
  ∃ D : DataW Unit, w.ownsMap Try.prog 9 (plainElem Try.prog 4) b n D ∧ ∀ s, D.atKey (.string s) (.lit (.bool false)) = .lit (.bool (f s))
def upd {α : Type} (f : List UInt8 → α) (s : List UInt8) (c : α) : List UInt8 → α := fun s' => if s' = s then c else f s'
section
variable {w w' : World} {b n : Nat} {f : List UInt8 → Option Int} {g : List UInt8 → Bool}
theorem MapI.kept {row : Option Nat} (h : MapI w b n f) (hg : w.grownBy w' row) (hne : some b ≠ row) : MapI w' b n f := by
  obtain ⟨D, ho, hd⟩ := h
  exact ⟨D, ho.kept hg hne, hd⟩
theorem MapB.kept {row : Option Nat} (h : MapB w b n g) (hg : w.grownBy w' row) (hne : some b ≠ row) : MapB w' b n g := by
  obtain ⟨D, ho, hd⟩ := h
  exact ⟨D, ho.kept hg hne, hd⟩
theorem MapI.lt (h : MapI w b n f) : b < w.heap.size := by
  obtain ⟨D, ho, hd⟩ := h
  exact ho.lt
theorem MapB.lt (h : MapB w b n g) : b < w.heap.size := by
  obtain ⟨D, ho, hd⟩ := h
  exact ho.lt
theorem MapI.setCell (h : MapI w b n f) {a : Addr} (ha : b ≠ a.block) (u : Value) : MapI (w.setCell a u) b n f := by
  obtain ⟨D, ho, hd⟩ := h
  exact ⟨D, ho.setCell ha u, hd⟩
theorem MapI.made (w : World) : MapI (w.alloc (.map #[] 0)) w.heap.size 0 (fun _ => none) :=
  ⟨_, World.ownsMap_made w _ _ _, fun s => ⟨rfl, fun c h => by cases h⟩⟩
theorem MapB.made (w : World) : MapB (w.alloc (.map #[] 0)) w.heap.size 0 (fun _ => false) :=
  ⟨_, World.ownsMap_made w _ _ _, fun s => rfl⟩
set_option maxRecDepth 100000 in
/-- 'v, ok := m[s]'. -/
theorem MapI.look {T : TypeId} (h : MapI w b n f) (hT : Try.prog.underlying T = some (.map 9 3)) {s : ByteArray} (hs : s.size ≤ maxLen) :
    (Instr.lookup T (.map (some b)) (.string s) true).run Try.prog w = .ok (.tuple #[.int .i64 ((f s.data.toList).getD 0), .bool (f s.data.toList).isSome]) w := by
  obtain ⟨D, ho, hd⟩ := h
  obtain ⟨v, ps, hrun, hv⟩ := ho.look_ok strLaw hT (z := .int .i64 0) (by kernel_rfl) (plainElem_int Try.underlying3 (by decide)) (keyOf_string_mk Try.underlying9 hs)
  obtain ⟨c, rfl, hc, _⟩ := plainElem_int_inv Try.underlying3 hv
  have hc := congrArg Prod.fst hc
  simp only at hc
  rw [hrun, (hd _).1]
  cases hf : f s.data.toList with
  | none =>
    have h0 : Maps.has D (.string s.data.toList) = false := by rw [(hd _).1, hf]; rfl
    rw [atKey_of_not_has h0] at hc
    injection hc with hc
    injection hc with _ hc
    rw [← hc]
    rfl
  | some c' =>
    rw [(hd _).2 c' hf] at hc
    injection hc with hc
    injection hc with _ hc
    rw [← hc]
    rfl
set_option maxRecDepth 100000 in
/-- 'm[s]'. -/
theorem MapI.get {T : TypeId} (h : MapI w b n f) (hT : Try.prog.underlying T = some (.map 9 3)) {s : ByteArray} (hs : s.size ≤ maxLen) :
    (Instr.lookup T (.map (some b)) (.string s) false).run Try.prog w = .ok (.int .i64 ((f s.data.toList).getD 0)) w := by
  obtain ⟨D, ho, hd⟩ := h
  obtain ⟨c, hrun, hc, _⟩ := ho.lookup_int strLaw hT Try.underlying3 (by kernel_rfl) (keyOf_string_mk Try.underlying9 hs)
  rw [hrun]
  cases hf : f s.data.toList with
  | none =>
    have h0 : Maps.has D (.string s.data.toList) = false := by rw [(hd _).1, hf]; rfl
    rw [atKey_of_not_has h0] at hc
    injection hc with hc
    injection hc with _ hc
    rw [← hc]
    rfl
  | some c' =>
    rw [(hd _).2 c' hf] at hc
    injection hc with hc
    injection hc with _ hc
    rw [← hc]
    rfl
set_option maxRecDepth 100000 in
theorem MapB.get {T : TypeId} (h : MapB w b n g) (hT : Try.prog.underlying T = some (.map 9 4)) {s : ByteArray} (hs : s.size ≤ maxLen) :
    (Instr.lookup T (.map (some b)) (.string s) false).run Try.prog w = .ok (.bool (g s.data.toList)) w := by
  obtain ⟨D, ho, hd⟩ := h
  obtain ⟨v, ps, hrun, hv⟩ := ho.lookup strLaw hT (z := .bool false) (by kernel_rfl) (plainElem_bool Try.underlying4 false) (keyOf_string_mk Try.underlying9 hs)
  rw [hrun]
  rw [hd] at hv
  have : v = .bool (g s.data.toList) := by
    unfold plainElem at hv
    rw [Try.underlying4] at hv
    split at hv
    · injection hv with hv
      have := congrArg Prod.fst hv
      injection this with this
      injection this with this
      rw [this]
    · simp_all
    · simp_all
    · cases hv
  rw [this]
theorem litKey (s : List UInt8) : WideAt.IsKeyLit (.string s) := trivial
theorem lit_ne {s s' : List UInt8} (h : s' ≠ s) : (Lit.string s') ≠ Lit.string s := fun e => h (by injection e)
/-- 'm[s] = c'. -/
theorem MapI.store {T : TypeId} (h : MapI w b n f) (hT : Try.prog.underlying T = some (.map 9 3)) (hn : n < maxLen) {s : ByteArray} (hs : s.size ≤ maxLen) {c : Int} (hc : (Lit.int .i64 c).wf = true) :
    ∃ w', (Instr.mapUpdate T (.map (some b)) (.string s) (.int .i64 c)).run Try.prog w = .ok () w' ∧ MapI w' b (n + 1) (upd f s.data.toList (some c)) ∧ w.grownBy w' (some b) := by
  obtain ⟨D, ho, hd⟩ := h
  obtain ⟨w', hrun, ho', hg⟩ := ho.update strLaw hT hn (keyOf_string_mk Try.underlying9 hs) (plainElem_int Try.underlying3 hc)
  refine ⟨w', hrun, ⟨_, ho', fun s' => ?_⟩, hg⟩
  unfold upd
  by_cases e : s' = s.data.toList
  · subst e
    rw [if_pos rfl, has_put_same ho.isMap (litKey _)]
    exact ⟨rfl, fun c' h' => by cases h'; exact atKey_put_same ho.isMap (litKey _) _ _⟩
  · rw [if_neg e, has_put_other (lit_ne e), atKey_put_other (lit_ne e)]
    exact hd s'
theorem MapB.store {T : TypeId} (h : MapB w b n g) (hT : Try.prog.underlying T = some (.map 9 4)) (hn : n < maxLen) {s : ByteArray} (hs : s.size ≤ maxLen) (c : Bool) :
    ∃ w', (Instr.mapUpdate T (.map (some b)) (.string s) (.bool c)).run Try.prog w = .ok () w' ∧ MapB w' b (n + 1) (upd g s.data.toList c) ∧ w.grownBy w' (some b) := by
  obtain ⟨D, ho, hd⟩ := h
  obtain ⟨w', hrun, ho', hg⟩ := ho.update strLaw hT hn (keyOf_string_mk Try.underlying9 hs) (plainElem_bool Try.underlying4 c)
  refine ⟨w', hrun, ⟨_, ho', fun s' => ?_⟩, hg⟩
  unfold upd
  by_cases e : s' = s.data.toList
  · subst e
    rw [if_pos rfl]
    exact atKey_put_same ho.isMap (litKey _) _ _
  · rw [if_neg e, atKey_put_other (lit_ne e)]
    exact hd s'
end
end Go.Proofs.Ytdbkooliafkcgaa.Yw
