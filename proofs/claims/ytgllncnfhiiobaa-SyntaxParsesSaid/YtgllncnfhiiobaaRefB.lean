/- The reference's parser: is, need, name. -/
import Derived.Test.YtgllncnfhiiobaaRefA
set_option linter.unusedVariables false
set_option linter.unusedSimpArgs false
namespace Go.Proofs.Ytgllncnfhiiobaa.Rw
open Go.RowKit Go.Proofs.YtgllncnfhiiobaaW.PrintWords Go.Proofs.YtgllncnfhiiobaaW.PrintLast Go.Proofs.YtgllncnfhiiobaaW.PrintMore Go.Proofs.Ytgllncnfhiiobaa Go.Proofs.Ytgllncnfhiiobaa.P Go.Proofs.Ytgllncnfhiiobaa.Lw Go.Proofs.Ytgllncnfhiiobaa.Sw

/-- Is the token that sign? -/
def signR (t : S102) (s : ByteArray) : Bool := (t.f0 == 3) && (t.f1.toList == s.toList)
def isT (t : S102) (s : RS) (x : ByteArray) : Bool := ((lookT t s).e == 0) && signR t x
/-- A token further. -/
def RS.next (s : RS) : RS := { s with at_ := s.at_ + 1 }
def needT (t : S102) (s : RS) (x : ByteArray) : RS := if isT t s x then (lookT t s).next else badT t (lookT t s) 2
/-- The state behind a name that may be wrong. -/
def nameS (t : S102) (s : RS) : RS := if t.f0 = 1 then lookT t s else badT t (lookT t s) 2
def nameT (t : S102) (s : RS) : ByteArray × RS := if (nameS t s).e = 0 then (t.f1, (nameS t s).next) else (⟨#[]⟩, nameS t s)
section
variable {w w' : World} {g : Nat} {A : Option Addr} {c : Nat} {ts : List S102} {s : RS} {t : S102}
theorem RE.small (h : RE w g A c ts s) (ht : ts[s.at_]? = some t) : (s.at_ : Int) + 1 ≤ 9223372036854775807 := by
  have := Kd.C_max h.C
  have := lt_rtok ht
  omega
theorem rat_next {n : Nat} (h : RAt w g A n c s) : RAt (w.setCell ⟨g, 1, none⟩ (.int .i64 ((s.at_ : Int) + 1))) g A n c s.next := by
  have := blk_set h 1 (.int .i64 ((s.at_ : Int) + 1))
  unfold RAt RS.next
  simpa using this
theorem rat_open {n : Nat} (h : RAt w g A n c s) (x : Int) : RAt (w.setCell ⟨g, 5, none⟩ (.int .i64 x)) g A n c { s with op := x } := by
  have := blk_set h 5 (.int .i64 x)
  unfold RAt
  simpa using this
theorem RE.next (h : RE w g A c ts s) : RE (w.setCell ⟨g, 1, none⟩ (.int .i64 ((s.at_ : Int) + 1))) g A c ts s.next :=
  h.step (grown_set (grown_refl _ _) _ _) (rat_next h.blk)
theorem RE.up (h : RE w g A c ts s) (x : Int) : RE (w.setCell ⟨g, 5, none⟩ (.int .i64 x)) g A c ts { s with op := x } :=
  h.step (grown_set (grown_refl _ _) _ _) (rat_open h.blk x)

set_option maxHeartbeats 4000000 in
set_option maxRecDepth 100000 in
theorem is_calls (h : RE w g A c ts s) (ht : ts[s.at_]? = some t) (x : ByteArray) :
    Calls Try.prog 21 #[.pointer (some ⟨g, 0, none⟩), .string x] w fun e w' => e = .returned (.bool (isT t s x)) ∧ w.grownBy w' (some g) ∧ RE w' g A c ts (lookT t s) := by
  have HP := Aside0.mk h
  have HT := Aside0.mk ht
  clear h ht
  cases he : ((lookT t s).e == 0)
  · have e0 : isT t s x = false := by unfold isT; rw [he]; rfl
    rw [e0]
    clear e0
    go_enter Try.func21, Try.ntmps21
    go_wp2_with (fail)
    refine (look_calls HP.out HT.out).mono ?_
    rintro e w1 ⟨rfl, hg, hp⟩
    have h4 := cellAt hp.blk 4 rfl
    have HP1 := Aside0.mk hp
    have HG := Aside0.mk hg
    clear hp hg
    go_wp2
    go_ret
    exact ⟨rfl, HG.out, HP1.out⟩
  · cases hk : (t.f0 == 3)
    · have e0 : isT t s x = false := by unfold isT signR; rw [hk, Bool.false_and, Bool.and_false]
      rw [e0]
      clear e0
      go_enter Try.func21, Try.ntmps21
      go_wp2_with (fail)
      refine (look_calls HP.out HT.out).mono ?_
      rintro e w1 ⟨rfl, hg, hp⟩
      have h4 := cellAt hp.blk 4 rfl
      have HP1 := Aside0.mk hp
      have HG := Aside0.mk hg
      clear hp hg
      go_wp2
      go_ret
      exact ⟨rfl, HG.out, HP1.out⟩
    · have e0 : isT t s x = (t.f1.toList == x.toList) := by unfold isT signR; rw [hk, he, Bool.true_and, Bool.true_and]
      rw [e0]
      clear e0
      go_enter Try.func21, Try.ntmps21
      go_wp2_with (fail)
      refine (look_calls HP.out HT.out).mono ?_
      rintro e w1 ⟨rfl, hg, hp⟩
      have h4 := cellAt hp.blk 4 rfl
      have HP1 := Aside0.mk hp
      have HG := Aside0.mk hg
      clear hp hg
      go_wp2
      go_ret
      exact ⟨rfl, HG.out, HP1.out⟩
set_option maxHeartbeats 4000000 in
set_option maxRecDepth 100000 in
theorem need_calls (h : RE w g A c ts s) (ht : ts[s.at_]? = some t) (x : ByteArray) :
    Calls Try.prog 23 #[.pointer (some ⟨g, 0, none⟩), .string x] w fun e w' => e = .returned (.tuple #[]) ∧ w.grownBy w' (some g) ∧ RE w' g A c ts (needT t s x) := by
  have HP := Aside0.mk h
  have HT := Aside0.mk ht
  have hm : ((lookT t s).at_ : Int) + 1 ≤ 9223372036854775807 := by rw [lookT_at]; exact h.small ht
  clear h ht
  cases he : isT t s x
  · have e0 : needT t s x = badT t (lookT t s) 2 := by unfold needT; rw [he]; rfl
    rw [e0]
    clear e0
    go_enter Try.func23, Try.ntmps23
    go_wp2_with (fail)
    refine (is_calls HP.out HT.out x).mono ?_
    rintro e w1 ⟨rfl, hg, hp⟩
    have HP1 := Aside0.mk hp
    have HG := Aside0.mk hg
    clear hp hg
    go_wp2_with (fail)
    refine (bad_calls HP1.out (by rw [lookT_at]; exact HT.out) 2).mono ?_
    rintro e w2 ⟨rfl, hg, hp⟩
    have HP2 := Aside0.mk hp
    have HG2 := Aside0.mk hg
    clear hp hg
    go_wp2
    refine bodyPost_ret (v := .tuple #[]) (by simp [results, Try.results23, go_sem]) rfl ⟨rfl, HG.out.trans HG2.out, HP2.out⟩
  · have e0 : needT t s x = (lookT t s).next := by unfold needT; rw [he]; rfl
    rw [e0]
    clear e0
    go_enter Try.func23, Try.ntmps23
    go_wp2_with (fail)
    refine (is_calls HP.out HT.out x).mono ?_
    rintro e w1 ⟨rfl, hg, hp⟩
    have h1 := cellAt hp.blk 1 rfl
    have z1 := blk_frozen hp.blk 1
    have HP1 := Aside0.mk hp
    have HG := Aside0.mk hg
    clear hp hg
    go_wp2
    go_end0
    exact ⟨rfl, grown_set HG.out _ _, HP1.out.next⟩
set_option maxHeartbeats 4000000 in
set_option maxRecDepth 100000 in
theorem name_calls (h : RE w g A c ts s) (ht : ts[s.at_]? = some t) :
    Calls Try.prog 22 #[.pointer (some ⟨g, 0, none⟩)] w fun e w' => e = .returned (.string (nameT t s).1) ∧ w.grownBy w' (some g) ∧ RE w' g A c ts (nameT t s).2 := by
  have HP := Aside0.mk h
  have HT := Aside0.mk ht
  have hm : ((lookT t s).at_ : Int) + 1 ≤ 9223372036854775807 := by rw [lookT_at]; exact h.small ht
  have hm2 : ((badT t (lookT t s) 2).at_ : Int) + 1 ≤ 9223372036854775807 := by rw [badT_at]; exact hm
  clear h ht
  by_cases hk : t.f0 = 1
  · have b0 : (t.f0 != 1) = false := by rw [hk]; rfl
    have e0 : nameS t s = lookT t s := if_pos hk
    unfold nameT
    rw [e0]
    clear e0 hk hm2
    by_cases he : (lookT t s).e = 0
    · rw [if_pos he]
      have b1 : ((lookT t s).e != 0) = false := bne_eq_false_iff_eq.mpr he
      clear he
      go_enter Try.func22, Try.ntmps22
      go_wp2_with (fail)
      refine (look_calls HP.out HT.out).mono ?_
      rintro e w1 ⟨rfl, hg, hp⟩
      have h1 := cellAt hp.blk 1 rfl
      have z1 := blk_frozen hp.blk 1
      have h4 := cellAt hp.blk 4 rfl
      have HP1 := Aside0.mk hp
      have HG := Aside0.mk hg
      clear hp hg
      go_wp2
      go_ret
      exact ⟨rfl, grown_set HG.out _ _, HP1.out.next⟩
    · rw [if_neg he]
      have b1 : ((lookT t s).e != 0) = true := bne_iff_ne.mpr he
      clear he
      go_enter Try.func22, Try.ntmps22
      go_wp2_with (fail)
      refine (look_calls HP.out HT.out).mono ?_
      rintro e w1 ⟨rfl, hg, hp⟩
      have h4 := cellAt hp.blk 4 rfl
      have HP1 := Aside0.mk hp
      have HG := Aside0.mk hg
      clear hp hg
      go_wp2
      go_ret
      exact ⟨rfl, HG.out, HP1.out⟩
  · have b0 : (t.f0 != 1) = true := bne_iff_ne.mpr hk
    have e0 : nameS t s = badT t (lookT t s) 2 := if_neg hk
    have he : (badT t (lookT t s) 2).e ≠ 0 := by
      unfold badT
      split
      · exact fun h => by cases h
      · assumption
    unfold nameT
    rw [e0, if_neg he]
    have b1 : ((badT t (lookT t s) 2).e != 0) = true := bne_iff_ne.mpr he
    clear e0 hk he
    go_enter Try.func22, Try.ntmps22
    go_wp2_with (fail)
    refine (look_calls HP.out HT.out).mono ?_
    rintro e w1 ⟨rfl, hg, hp⟩
    have HP1 := Aside0.mk hp
    have HG := Aside0.mk hg
    clear hp hg
    go_wp2_with (fail)
    refine (bad_calls HP1.out (by rw [lookT_at]; exact HT.out) 2).mono ?_
    rintro e w2 ⟨rfl, hg, hp⟩
    have h4 := cellAt hp.blk 4 rfl
    have HP2 := Aside0.mk hp
    have HG2 := Aside0.mk (HG.out.trans hg)
    clear hp hg
    go_wp2
    go_ret
    exact ⟨rfl, HG2.out, HP2.out⟩
end
end Go.Proofs.Ytgllncnfhiiobaa.Rw
