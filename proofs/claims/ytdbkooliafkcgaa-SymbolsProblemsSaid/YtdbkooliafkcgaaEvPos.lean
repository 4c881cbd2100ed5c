/- Rounds that are enough; places of a text: for the laws over printed functions. -/
import Derived.Test.YtdbkooliafkcgaaPx0
import Derived.Test.YtdbkooliafkcgaaLexA
set_option linter.unusedVariables false
set_option linter.unusedSimpArgs false
namespace Go.Proofs.Ytdbkooliafkcgaa.Pure
open Go.RowKit Go.Proofs.Ytdbkooliafkcgaa.P Go.Proofs.YtdbkooliafkcgaaW.PrintWords Go.Proofs.YtdbkooliafkcgaaW.PrintLast Go.Proofs.Ytdbkooliafkcgaa

/-- From some number of rounds on, it tells r. -/
def Ev {α : Type} (g : Nat → Option α) (r : α) : Prop := ∃ K, ∀ k, K ≤ k → g k = some r
theorem Ev.const {α : Type} {r : α} : Ev (fun _ => some r) r := ⟨0, fun _ _ => rfl⟩
theorem Ev.fixed {α : Type} {g : Option α} {r : α} (h : g = some r) : Ev (fun _ => g) r := ⟨0, fun _ _ => h⟩
theorem Ev.succ {α : Type} {g : Nat → Option α} {r : α} (h : Ev (fun k => g (k + 1)) r) : Ev g r := by
  obtain ⟨K, h⟩ := h
  refine ⟨K + 1, fun k hk => ?_⟩
  obtain ⟨m, rfl⟩ : ∃ m, k = m + 1 := ⟨k - 1, by omega⟩
  exact h m (by omega)
theorem Ev.bind {α β : Type} {g : Nat → Option β} {b : β} {h : Nat → β → Option α} {r : α} (h1 : Ev g b) (h2 : Ev (fun k => h k b) r) : Ev (fun k => (g k).bind (h k)) r := by
  obtain ⟨K, h1⟩ := h1
  obtain ⟨L, h2⟩ := h2
  refine ⟨K + L, fun k hk => ?_⟩
  show (g k).bind (h k) = some r
  rw [h1 k (by omega)]
  exact h2 k (by omega)
theorem Ev.at {α : Type} {g : Nat → Option α} {r : α} (h : Ev g r) : ∃ k, g k = some r := by
  obtain ⟨K, h⟩ := h
  exact ⟨K, h K (Nat.le_refl _)⟩
theorem Ev.eq {α : Type} {g g' : Nat → Option α} {r : α} (h : Ev g r) (e : ∀ k, g' k = g k) : Ev g' r := by
  obtain ⟨K, h⟩ := h
  exact ⟨K, fun k hk => by rw [e]; exact h k hk⟩

theorem Ev.pos {α : Type} {c : Prop} [Decidable c] {g g' : Nat → Option α} {r : α} (h : c) (H : Ev g r) : Ev (fun k => if c then g k else g' k) r := H.eq fun k => if_pos h
theorem Ev.neg {α : Type} {c : Prop} [Decidable c] {g g' : Nat → Option α} {r : α} (h : ¬ c) (H : Ev g' r) : Ev (fun k => if c then g k else g' k) r := H.eq fun k => if_neg h
theorem Ev.eq' {α : Type} {g : Nat → Option α} {r r' : α} (h : Ev g r) (e : r = r') : Ev g r' := e ▸ h
theorem wr_nat (n : Nat) (h : n < 4611686018427387904) : wrap64 ((n : Int) + 1) = ((n + 1 : Nat) : Int) := by unfold wrap64; omega
end Go.Proofs.Ytdbkooliafkcgaa.Pure
