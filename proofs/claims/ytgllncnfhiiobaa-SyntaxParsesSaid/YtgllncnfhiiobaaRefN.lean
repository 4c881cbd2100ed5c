/- The reference's nodes in rows. -/
import Derived.Test.YtgllncnfhiiobaaRefC
set_option linter.unusedVariables false
set_option linter.unusedSimpArgs false
namespace Go.Proofs.Ytgllncnfhiiobaa.Rw
open Go.RowKit Go.Proofs.YtgllncnfhiiobaaW.PrintWords Go.Proofs.YtgllncnfhiiobaaW.PrintLast Go.Proofs.YtgllncnfhiiobaaW.PrintMore Go.Proofs.Ytgllncnfhiiobaa Go.Proofs.Ytgllncnfhiiobaa.P Go.Proofs.Ytgllncnfhiiobaa.Lw Go.Proofs.Ytgllncnfhiiobaa.Sw
section
variable {w w' : World}
theorem k78_sz : k78.sz = 3 := rfl
/-- A row of one node, just made. -/
theorem R_one {base : Nat} {n : S78} {v : Value} (hv : k78.R 78 w base (fun _ => True) v n.f2) (hb : base ≤ w.heap.size) :
    k78.R 78 (w.alloc (.cells #[.int .i64 n.f0, .string n.f1, v] 78)) base (fun _ => True) (.slice (some ⟨w.heap.size, 0, none⟩) 1 1) [n] := by
  refine ⟨fun _ _ => trivial, [.int .i64 n.f0, .string n.f1, v], ?_, ?_⟩
  · have h2 := World.ownsRow_lit (base := base) (e := 78) (size := 3) w #[.int .i64 n.f0, .string n.f1, v] 1 hb (by decide) (by simp)
    simpa [k78_sz] using h2
  · have h3 : Reps (k78.M (w.alloc (.cells #[.int .i64 n.f0, .string n.f1, v] 78)) base (fun k => True ∧ some k ≠ (Value.slice (some ⟨w.heap.size, 0, none⟩) 1 1).ownBlock)) 3 ([] ++ [n]) ([] ++ [.int .i64 n.f0, .string n.f1, v]) := by
      refine Reps.snoc (Reps.none _ _) ?_ (by simp)
      have hM := k78_mkM w base _ n (Kd.R_bound hv)
      refine k78.M_mono (fun k hk => ⟨trivial, fun he => ?_⟩) (Kd.M_below hM (below_alloc (Below.refl _ _) _))
      have e : k = w.heap.size := by simpa [Value.ownBlock] using he
      have := hk.2.2.1
      omega
    simpa [k78_sz] using h3
theorem infoNodes : (Try.prog.info? 78).map (fun i => (i.zero, i.size, i.bytes)) = some (some (.agg #[(.int .i64 0), (.string ⟨#[]⟩), (.slice none 0 0)]), 3, 48) := by kernel_rfl
theorem R_oneK {base : Nat} {ok ok' : Nat → Prop} {n : S78} {v : Value} (hv : k78.R 78 w base ok v n.f2) (hb : base ≤ w.heap.size) (hok : ∀ k, ok k → k < w.heap.size → ok' k) (hnew : ok' w.heap.size) :
    k78.R 78 (w.alloc (.cells #[.int .i64 n.f0, .string n.f1, v] 78)) base ok' (.slice (some ⟨w.heap.size, 0, none⟩) 1 1) [n] := by
  refine ⟨fun k hk => ?_, [.int .i64 n.f0, .string n.f1, v], ?_, ?_⟩
  · have e : w.heap.size = k := by simpa [Value.ownBlock] using hk
    exact e ▸ hnew
  · have h2 := World.ownsRow_lit (base := base) (e := 78) (size := 3) w #[.int .i64 n.f0, .string n.f1, v] 1 hb (by decide) (by simp)
    simpa [k78_sz] using h2
  · have h3 : Reps (k78.M (w.alloc (.cells #[.int .i64 n.f0, .string n.f1, v] 78)) base (fun k => ok' k ∧ some k ≠ (Value.slice (some ⟨w.heap.size, 0, none⟩) 1 1).ownBlock)) 3 ([] ++ [n]) ([] ++ [.int .i64 n.f0, .string n.f1, v]) := by
      refine Reps.snoc (Reps.none _ _) ?_ (by simp)
      have hM := k78_mkM w base _ n (Kd.R_bound hv)
      refine k78.M_mono (fun k hk => ⟨hok k hk.1 hk.2.2.1, fun he => ?_⟩) (Kd.M_below hM (below_alloc (Below.refl _ _) _))
      have e : k = w.heap.size := by simpa [Value.ownBlock] using he
      have := hk.2.2.1
      omega
    simpa [k78_sz] using h3
/-- The one node of a row. -/
theorem row_one {base : Nat} {ok : Nat → Prop} {v : Value} {x : S78} (h : k78.R 78 w base ok v [x]) : ∃ q cap A1 c1, v = .slice (some ⟨q, 0, none⟩) 1 cap ∧ w.cell? ⟨q, 0, none⟩ = some (.int .i64 x.f0) ∧ w.cell? ⟨q, 1, none⟩ = some (.string x.f1) ∧
    w.cell? ⟨q, 2, none⟩ = some (.slice A1 x.f2.length c1) ∧ k78.R 78 w base ok (.slice A1 x.f2.length c1) x.f2 ∧ base ≤ q ∧ q < w.heap.size := by
  obtain ⟨q, cap, rfl, hb, hl, _⟩ := Kd.R_form h (by simp)
  obtain ⟨cs, hcl, hM, hcc, _⟩ := Kd.R_elem h z78 0 (by omega) (by simp)
  obtain ⟨v2, rfl, hR⟩ := k78_openM hM
  simp only [Int.toNat_zero, List.getD_cons_zero, Nat.zero_mul, Nat.zero_add] at hR hcc
  obtain ⟨A1, c1, rfl⟩ := Kd.R_slice hR
  exact ⟨q, cap, A1, c1, rfl, hcc 0 _ rfl, hcc 1 _ rfl, hcc 2 _ rfl, Kd.R_mono hR (fun _ hk => hk.1), hb, hl⟩
theorem infoNode : (Try.prog.info? 78).map (·.size) = some 3 := by kernel_rfl
theorem oneR_many {k : Int} {l : List S78} (h : l.length ≠ 1) : oneR k l = ⟨k, ⟨#[]⟩, l⟩ := by
  unfold oneR
  split
  · simp at h
  · rfl
end
end Go.Proofs.Ytgllncnfhiiobaa.Rw
