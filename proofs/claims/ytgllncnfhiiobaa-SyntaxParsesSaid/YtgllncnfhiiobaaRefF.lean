/- The reference's parser: what Parse computes, and the state of its walk. -/
import Derived.Test.YtgllncnfhiiobaaRefE
import Derived.Test.YtgllncnfhiiobaaSynB
set_option linter.unusedVariables false
set_option linter.unusedSimpArgs false
namespace Go.Proofs.Ytgllncnfhiiobaa.Rw
open Go.RowKit Go.Proofs.YtgllncnfhiiobaaW.PrintWords Go.Proofs.YtgllncnfhiiobaaW.PrintLast Go.Proofs.YtgllncnfhiiobaaW.PrintMore Go.Proofs.Ytgllncnfhiiobaa Go.Proofs.Ytgllncnfhiiobaa.P Go.Proofs.Ytgllncnfhiiobaa.Lw Go.Proofs.Ytgllncnfhiiobaa.Sw

def RS.zero : RS := ⟨0, 0, 0, 0, 0⟩
/-- A sign that must stand there, if there is no fault yet. -/
def needK (ts : List S102) (x : ByteArray) (s : RS) : Option RS :=
  if s.e = 0 then match ts[s.at_]? with
    | none => none
    | some t2 => some (needT t2 s x) else some s
def bodyK (ts : List S102) (m : Nat) (s : RS) : Option (S78 × RS) := if s.e = 0 then altR ts m s else some (⟨0, ⟨#[]⟩, []⟩, s)
theorem ruleR_split {ts : List S102} {m : Nat} {t : S102} {s : RS} {p : S80 × RS} (h : ruleR ts m t s = some p) :
    ∃ s2 b s4, p = (⟨(nameT t s).1, b.1⟩, s4) ∧ needK ts ⟨#[58]⟩ (nameT t s).2 = some s2 ∧ bodyK ts m s2 = some b ∧ needK ts ⟨#[59]⟩ b.2 = some s4 := by
  unfold ruleR at h
  obtain ⟨s2, h2, h⟩ := Option.bind_eq_some_iff.1 h
  obtain ⟨b, hb, h⟩ := Option.bind_eq_some_iff.1 h
  obtain ⟨s4, h4, rfl⟩ := Option.map_eq_some_iff.1 h
  exact ⟨s2, b, s4, rfl, h2, hb, h4⟩
theorem needK_yes {ts : List S102} {x : ByteArray} {s s2 : RS} (h : needK ts x s = some s2) (he : s.e = 0) : ∃ t2, ts[s.at_]? = some t2 ∧ s2 = needT t2 s x := by
  unfold needK at h
  rw [if_pos he] at h
  split at h
  · cases h
  · rename_i t2 ht
    exact ⟨t2, ht, (Option.some.inj h).symm⟩
theorem needK_no {ts : List S102} {x : ByteArray} {s s2 : RS} (h : needK ts x s = some s2) (he : ¬ s.e = 0) : s2 = s := by
  unfold needK at h
  rw [if_neg he] at h
  exact (Option.some.inj h).symm
/-- The start, if one is named. -/
def startR (ts : List S102) : Option (ByteArray × RS) :=
  match ts[RS.zero.at_]? with
  | none => none
  | some t =>
    if isT t RS.zero ⟨#[37]⟩ then
      match ts[(lookT t RS.zero).next.at_]? with
      | none => none
      | some t1 =>
        match ts[(nameT t1 (lookT t RS.zero).next).2.at_]? with
        | none => none
        | some t2 => some ((nameT t1 (lookT t RS.zero).next).1, needT t2 (nameT t1 (lookT t RS.zero).next).2 ⟨#[59]⟩)
    else some (⟨#[]⟩, lookT t RS.zero)
def parseG (ts : List S102) (m n : Nat) : Option (ByteArray × List S80 × RS) :=
  (startR ts).bind fun a => (rulesR ts m n a.2 []).map fun r => (a.1, r.1, r.2)
def startOfR (s : ByteArray) (l : List S80) : ByteArray := if s.toList.isEmpty then (rd_T80 l 0).f0 else s
def resG (r : ByteArray × List S80 × RS) : ByteArray × List S80 × Int × Int × Int :=
  if r.2.2.e = 0 then (startOfR r.1 r.2.1, r.2.1, 0, 0, 0) else (⟨#[]⟩, [], r.2.2.l, r.2.2.c, r.2.2.e)
def endG (t : S102) (n : Nat) : Bool := (t.f0 == 4) && decide (0 < (n : Int))
def fullG (t : S102) (n : Nat) : Bool := (t.f0 == 1) && ((n : Int) == 64)
theorem endG_iff {t : S102} {n : Nat} : endG t n = true ↔ t.f0 = 4 ∧ 0 < n := by
  unfold endG
  simp
theorem fullG_iff {t : S102} {n : Nat} : fullG t n = true ↔ t.f0 = 1 ∧ n = 64 := by
  unfold fullG
  simp
  omega
theorem rulesR_pos {ts : List S102} {m : Nat} : ∀ {n : Nat} {s : RS} {acc : List S80} {r : List S80 × RS}, rulesR ts m n s acc = some r → r.2.e = 0 → 0 < r.1.length
  | 0, _, _, _, h, _ => by simp [rulesR] at h
  | n + 1, s, acc, r, h, he => by
    unfold rulesR at h
    split at h
    · split at h
      · cases h
      · rename_i t ht
        split at h
        · rename_i hx
          cases h
          exact hx.2
        · obtain ⟨p, hp, hk⟩ := Option.bind_eq_some_iff.1 h
          exact rulesR_pos hk he
    · rename_i hne
      cases h
      exact absurd he hne

abbrev zG : Obj := .cells #[.string ⟨#[]⟩, .slice none 0 0] 33
abbrev zF : Obj := .cells #[.int .i64 0, .int .i64 0, .int .i64 0] 35
abbrev ruleBox (nm : ByteArray) (k : Int) (x : ByteArray) (v : Value) : Obj := .cells #[.string nm, .int .i64 k, .string x, v] 80
/-- While the rules are read: the state at g, the grammar behind it. -/
structure GE (w wx : World) (g : Nat) (A : Option Addr) (c : Nat) (ts : List S102) (s : RS) (st : ByteArray) (v : Value) : Prop where
  blk : RAt wx g A ts.length c s
  tk : Kd.R k102 102 wx 0 (fun k => k < g) (.slice A ts.length c) ts
  bel : Below w.heap.size w wx
  z0 : wx.heap[w.heap.size]? = some zG
  z1 : wx.heap[w.heap.size + 1]? = some zF
  gr : wx.heap[g + 1]? = some (.cells #[.string st, v] 33 (0, 0))
  lo : w.heap.size + 1 < g
section
variable {w wx w' : World} {g : Nat} {A : Option Addr} {c : Nat} {ts : List S102} {s s' : RS} {t : S102} {st : ByteArray} {v : Value}
theorem GE.re (h : GE w wx g A c ts s st v) : RE wx g A c ts s := ⟨h.blk, Kd.R_mono h.tk (fun k hk => Nat.ne_of_lt hk)⟩
theorem GE.on (h : GE w wx g A c ts s st v) (hg : wx.grownBy w' (some g)) (hp : RE w' g A c ts s') : GE w w' g A c ts s' st v :=
  ⟨hp.blk, Kd.R_grown h.tk hg (fun k hk e => by have e := Option.some.inj e; omega), below_then' h.bel hg (by have := h.lo; have := blk_lt h.z0; omega),
    blk_kept h.z0 hg (by have := h.lo; omega), blk_kept h.z1 hg (by have := h.lo; omega), blk_kept h.gr hg (by omega), h.lo⟩
theorem GE.far (h : GE w wx g A c ts s st v) (p : Addr) (hp : g + 1 < p.block) (u : Value) : GE w (wx.setCell p u) g A c ts s st v :=
  ⟨blk_far h.blk (by omega) u, Kd.R_far (p := p) h.tk (fun k hk e => by omega) u, h.bel.setCell (by have := h.lo; omega) u,
    blk_far h.z0 (by have := h.lo; omega) u, blk_far h.z1 (by have := h.lo; omega) u, blk_far h.gr (by omega) u, h.lo⟩
theorem GE.grow {row : Option Nat} (h : GE w wx g A c ts s st v) (hg : wx.grownBy w' row) (hr : ∀ k, row = some k → g + 1 < k) : GE w w' g A c ts s st v :=
  ⟨blk_grown h.blk hg (fun e => by have := hr _ e.symm; omega), Kd.R_grown h.tk hg (fun k hk e => by have := hr _ e.symm; omega),
    h.bel.grown hg (by have := blk_lt h.z0; omega) (fun k e => by have := hr _ e; have := h.lo; omega),
    blk_grown h.z0 hg (fun e => by have := hr _ e.symm; have := h.lo; omega), blk_grown h.z1 hg (fun e => by have := hr _ e.symm; have := h.lo; omega), blk_grown h.gr hg (fun e => by have := hr _ e.symm; omega), h.lo⟩
theorem GE.setStart (h : GE w wx g A c ts s st v) (st' : ByteArray) : GE w (wx.setCell ⟨g + 1, 0, none⟩ (.string st')) g A c ts s st' v :=
  ⟨blk_far h.blk (by simp) _, Kd.R_far (p := ⟨g + 1, 0, none⟩) h.tk (fun k hk e => by dsimp only at e; omega) _, h.bel.setCell (by have := h.lo; dsimp only; omega) _,
    blk_far h.z0 (by have := h.lo; dsimp only; omega) _, blk_far h.z1 (by have := h.lo; dsimp only; omega) _, by have := blk_set h.gr 0 (.string st'); simpa using this, h.lo⟩
theorem GE.setRules (h : GE w wx g A c ts s st v) (v' : Value) : GE w (wx.setCell ⟨g + 1, 1, none⟩ v') g A c ts s st v' :=
  ⟨blk_far h.blk (by simp) _, Kd.R_far (p := ⟨g + 1, 1, none⟩) h.tk (fun k hk e => by dsimp only at e; omega) _, h.bel.setCell (by have := h.lo; dsimp only; omega) _,
    blk_far h.z0 (by have := h.lo; dsimp only; omega) _, blk_far h.z1 (by have := h.lo; dsimp only; omega) _, by have := blk_set h.gr 1 v'; simpa using this, h.lo⟩
theorem GE.next (h : GE w wx g A c ts s st v) (hm : (s.at_ : Int) + 1 ≤ 9223372036854775807) : GE w (wx.setCell ⟨g, 1, none⟩ (.int .i64 (wrap64 ((s.at_ : Int) + 1)))) g A c ts s.next st v :=
  h.on (grown_set (grown_refl _ _) _ _) (h.re.nextW hm)
theorem GE.small (h : GE w wx g A c ts s st v) (ht : ts[s.at_]? = some t) : (s.at_ : Int) + 1 ≤ 9223372036854775807 := h.re.small ht
/-- Between two rules. -/
def RulesRR (w : World) (g : Nat) (A : Option Addr) (c : Nat) (ts : List S102) (m n : Nat) (st : ByteArray) (r : List S80 × RS) (k : Nat) (wr : World) : Prop :=
  ∃ s acc v, GE w wr g A c ts s st v ∧ k80.R 80 wr (g + 2) (fun _ => True) v acc ∧ rulesR ts m k s acc = some r ∧ acc.length + k ≤ n
/-- Within a rule; b: its box. -/
def RuleRR (w : World) (g : Nat) (A : Option Addr) (c : Nat) (ts : List S102) (st : ByteArray) (acc : List S80) (v : Value) (b : Nat) (nm : ByteArray) (bd : S78) (s : RS) (wx : World) : Prop :=
  GE w wx g A c ts s st v ∧ k80.R 80 wx (g + 2) (fun k => k ≠ b) v acc ∧ ∃ vb, wx.heap[b]? = some (ruleBox nm bd.f0 bd.f1 vb) ∧ k78.R 78 wx (b + 1) (fun _ => True) vb bd.f2
theorem RuleRR.on {acc : List S80} {b : Nat} {nm : ByteArray} {bd : S78} (h : RuleRR w g A c ts st acc v b nm bd s wx) (hb : g + 1 < b) (hg : wx.grownBy w' (some g)) (hp : RE w' g A c ts s') : RuleRR w g A c ts st acc v b nm bd s' w' := by
  obtain ⟨h1, h2, vb, h3, h4⟩ := h
  refine ⟨h1.on hg hp, ?_, vb, blk_kept h3 hg (by omega), ?_⟩
  · exact Kd.R_mono (Kd.R_grown (Kd.R_bound h2) hg (fun k hk e => by have e := Option.some.inj e; have := hk.2.1; omega)) (fun k hk => hk.1)
  · exact Kd.R_mono (Kd.R_grown (Kd.R_bound h4) hg (fun k hk e => by have e := Option.some.inj e; have := hk.2.1; omega)) (fun _ _ => trivial)
/-- What Parse leaves. -/
def ParseRPost (w : World) (q : ByteArray × List S80 × Int × Int × Int) (e : Ending) (w' : World) : Prop :=
  ∃ v, e = .returned (.tuple #[.agg #[.string q.1, v], .agg #[.int .i64 q.2.2.1, .int .i64 q.2.2.2.1, .int .i64 q.2.2.2.2]]) ∧ k80.R 80 w' w.heap.size (fun _ => True) v q.2.1 ∧ Below w.heap.size w w'
theorem infoGramR : (Try.prog.info? 33).map (·.size) = some 2 := by kernel_rfl
theorem infoFaultR : (Try.prog.info? 35).map (·.size) = some 3 := by kernel_rfl
theorem infoRulesR : (Try.prog.info? 80).map (fun i => (i.zero, i.size, i.bytes)) = some (some (.agg #[(.string ⟨#[]⟩), (.int .i64 0), (.string ⟨#[]⟩), (.slice none 0 0)]), 4, 64) := by kernel_rfl
/-- The name of the first rule. -/
theorem rules_firstR {base q n cap : Nat} {ok : Nat → Prop} {x : S80} {l : List S80} (h : k80.R 80 w base ok (.slice (some ⟨q, 0, none⟩) n cap) (x :: l)) : w.cell? ⟨q, 0, none⟩ = some (.string x.f0) := by
  obtain ⟨hn, _, _⟩ := Kd.R_reads' h
  obtain ⟨cs, hcl, hM, hcc, _⟩ := Kd.R_elem h z80 0 (by omega) (by rw [hn]; simp)
  obtain ⟨v2, rfl, hR⟩ := k80_openM hM
  simp only [Int.toNat_zero, List.getD_cons_zero, Nat.zero_mul, Nat.zero_add] at hR hcc
  exact hcc 0 _ rfl
end
end Go.Proofs.Ytgllncnfhiiobaa.Rw
