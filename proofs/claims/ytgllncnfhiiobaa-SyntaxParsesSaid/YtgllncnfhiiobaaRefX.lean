/- The reference's Parse as a function of the print's form. -/
import Derived.Test.YtgllncnfhiiobaaRefG
import Derived.Test.YtgllncnfhiiobaaRefH
import Derived.Test.YtgllncnfhiiobaaRefQ
import Derived.Test.YtgllncnfhiiobaaRefL
set_option linter.unusedVariables false
set_option linter.unusedSimpArgs false
namespace Go.Proofs.Ytgllncnfhiiobaa.P
open Go.RowKit Go.Proofs.YtgllncnfhiiobaaW.PrintWords Go.Proofs.YtgllncnfhiiobaaW.PrintLast Go.Proofs.YtgllncnfhiiobaaW.PrintMore Go.Proofs.Ytgllncnfhiiobaa Go.Proofs.Ytgllncnfhiiobaa.Lw Go.Proofs.Ytgllncnfhiiobaa.Sw Go.Proofs.Ytgllncnfhiiobaa.Rw

theorem toks_kinds {s : List UInt8} {ts : List Lx.Tok} (h : Lx.scan s = .ok ts) : (∀ (i : Nat) t, (ts.map toS)[i]? = some t → 1 ≤ t.f0) ∧ ts.length ≤ 65538 := by
  obtain ⟨init, e, rfl, hv, he, hl⟩ := Lx.scan_valid h
  constructor
  · intro i t ht
    rw [List.getElem?_map] at ht
    obtain ⟨u, hu, rfl⟩ := Option.map_eq_some_iff.1 ht
    have hm := List.mem_of_getElem? hu
    show 1 ≤ u.kind
    rcases List.mem_append.1 hm with h1 | h1
    · rcases hv u h1 with h2 | h2 | h2 <;> (have := h2.1; omega)
    · have : u = e := by simpa using h1
      rw [this, he.1]
      decide
  · unfold Lx.scan at h
    split at h
    · cases h
    · simp only [List.length_append, List.length_singleton]
      omega
theorem toQ_toS (ts : List Lx.Tok) : (ts.map toS).map toQ = ts.map Pure.toR := by
  rw [List.map_map]
  rfl
def primerref05_Parse.f (a0 : ByteArray) : Option (ByteArray × List S80 × Int × Int × Int) := (parseR a0).map convP
theorem primerref05_Parse.post {a0 : ByteArray} {p : PR S25} (w : World) (hp : parseR a0 = some p) : Calls Try.prog 9 #[.string a0] w (ParseRPost w (convP p)) := by
  obtain ⟨k, hk⟩ := (Pure.scan_ref a0).at
  unfold parseR at hp
  cases hs : Lx.scan a0.data.toList with
  | error f =>
    rw [hs] at hp hk
    cases hp
    exact parse_scan_bad hk (scan_code hs)
  | ok ts =>
    rw [hs] at hp hk
    obtain ⟨K, hl⟩ := toks_kinds hs
    obtain ⟨r, hr, he⟩ := grammar_rel K (Nat.lt_succ_self (ts.length + 2)) hp
    rw [toQ_toS] at hr
    rw [← he]
    exact parse_rules hk (by omega) (by omega) hr
theorem primerref05_Parse.calls (a0 : ByteArray) (r1 : ByteArray) (r2 : List S80) (r3 r4 r5 : Int) (w : World) (h : primerref05_Parse.f a0 = some (r1, r2, r3, r4, r5)) :
    Calls Try.prog 9 #[.string a0] w fun e w' => ∃ v0_ : Value, e = .returned (.tuple #[.agg #[.string r1, v0_], .agg #[.int .i64 r3, .int .i64 r4, .int .i64 r5]]) ∧ Kd.R k80 80 w' w.heap.size (fun _ => True) v0_ r2 ∧ Below w.heap.size w w' := by
  obtain ⟨p, hp, he⟩ := Option.map_eq_some_iff.1 (show (parseR a0).map convP = some _ from h)
  have := primerref05_Parse.post w hp
  rw [he] at this
  exact this
end Go.Proofs.Ytgllncnfhiiobaa.P
