/- The walks of the parser: grammar. The walk of Parse: the closure that catches; Parse. -/
import Derived.Test.YtdbkooliafkcgaaSynA
import Derived.Test.YtdbkooliafkcgaaLexExt
import Derived.Defers
import Derived.Recover
import Derived.Laws.Pointers
set_option linter.unusedVariables false
set_option linter.unusedSimpArgs false
namespace Go.Proofs.Ytdbkooliafkcgaa.Sw
open Go.RowKit Go.Proofs.YtdbkooliafkcgaaW.PrintWords Go.Proofs.YtdbkooliafkcgaaW.PrintLast Go.Proofs.YtdbkooliafkcgaaW.PrintMore Go.Proofs.Ytdbkooliafkcgaa Go.Proofs.Ytdbkooliafkcgaa.P Go.Proofs.Ytdbkooliafkcgaa.Lw

section
variable {g : Nat} {A : Option Addr} {c : Nat} {ts : List S94} {i op : Nat} {w w' : World} {t : S94}
abbrev zeroGram : Obj := .cells #[.string ⟨#[]⟩, .slice none 0 0] 25
theorem infoGram : (Try.prog.info? 25).map (·.size) = some 2 := by kernel_rfl
theorem infoRules : (Try.prog.info? 50).map (fun i => (i.zero, i.size, i.bytes)) = some (some (.agg #[(.string ⟨#[]⟩), (.int .i64 0), (.string ⟨#[]⟩), (.slice none 0 0)]), 4, 64) := by kernel_rfl
theorem fld0 (x0 x1 x2 x3 : Value) (w : World) : (Instr.field 94 (.agg #[x0, x1, x2, x3]) 0).run Try.prog w = .ok x0 w := by kernel_rfl
theorem rule_store {q T : Nat} {x x0 x1 x2 : Value} (h : w.heap[q]? = some (.cells #[x, x0, x1, x2] T (0, 0))) (y0 y1 y2 : Value) :
    (((w.setCell ⟨q, 1, none⟩ y0).setCell ⟨q, 2, none⟩ y1).setCell ⟨q, 3, none⟩ y2).heap[q]? = some (.cells #[x, y0, y1, y2] T (0, 0)) := by
  have := blk_set (blk_set (blk_set h 1 y0) 2 y1) 3 y2
  simpa using this
theorem grown_set4 {row : Option Nat} (h : w.grownBy w' row) {q : Nat} (hq : w.heap.size ≤ q) (y0 y1 y2 : Value) :
    w.grownBy (((w'.setCell ⟨q, 1, none⟩ y0).setCell ⟨q, 2, none⟩ y1).setCell ⟨q, 3, none⟩ y2) row :=
  grown_setNew (grown_setNew (grown_setNew h (p := ⟨q, 1, none⟩) hq y0) (p := ⟨q, 2, none⟩) hq y1) (p := ⟨q, 3, none⟩) hq y2
theorem blk_far4 {b q : Nat} {o : Obj} (h : w.heap[b]? = some o) (hne : b ≠ q) (y0 y1 y2 : Value) :
    (((w.setCell ⟨q, 1, none⟩ y0).setCell ⟨q, 2, none⟩ y1).setCell ⟨q, 3, none⟩ y2).heap[b]? = some o :=
  (Below.heap_setCell _ ⟨q, 3, none⟩ y2 b hne).trans ((Below.heap_setCell _ ⟨q, 2, none⟩ y1 b hne).trans ((Below.heap_setCell _ ⟨q, 1, none⟩ y0 b hne).trans h))
theorem R_far4 {α : Type} {d : Kd α} {e base : Nat} {ok : Nat → Prop} {v : Value} {xs : List α} (h : d.R e w base ok v xs) {q : Nat} (hok : ∀ k, ok k → k ≠ q) (y0 y1 y2 : Value) :
    d.R e (((w.setCell ⟨q, 1, none⟩ y0).setCell ⟨q, 2, none⟩ y1).setCell ⟨q, 3, none⟩ y2) base ok v xs :=
  Kd.R_far (p := ⟨q, 3, none⟩) (Kd.R_far (p := ⟨q, 2, none⟩) (Kd.R_far (p := ⟨q, 1, none⟩) h hok y0) hok y1) hok y2
theorem gram_store {q T : Nat} {x0 x1 : Value} (h : w.heap[q]? = some (.cells #[x0, x1] T (0, 0))) (y0 y1 : Value) :
    ((w.setCell ⟨q, 0, none⟩ y0).setCell ⟨q, 1, none⟩ y1).heap[q]? = some (.cells #[y0, y1] T (0, 0)) := by
  have := blk_set (blk_set h 0 y0) 1 y1
  simpa using this
theorem nameP_kind {s : ByteArray} {j : Nat} (ht : ts[i]? = some t) (h : nameP ts i = some (.ok s j)) : t.f0 = 1 := by
  obtain ⟨t', ht', ⟨hf, hh⟩ | ⟨hf, hh⟩⟩ := peekP_some h
  · cases hh
  · rw [ht] at ht'
    cases ht'
    split at hh
    · assumption
    · cases hh
/-- The name of the first rule. -/
theorem rules_first {base q n cap : Nat} {ok : Nat → Prop} {x : S50} {l : List S50} (h : k50.R 50 w base ok (.slice (some ⟨q, 0, none⟩) n cap) (x :: l)) : w.cell? ⟨q, 0, none⟩ = some (.string x.f0) := by
  obtain ⟨hn, _, _⟩ := Kd.R_reads' h
  obtain ⟨cs, hcl, hM, hcc, _⟩ := Kd.R_elem h z50 0 (by omega) (by rw [hn]; simp)
  obtain ⟨v2, rfl, hR⟩ := k50_openM hM
  simp only [Int.toNat_zero, List.getD_cons_zero, Nat.zero_mul, Nat.zero_add] at hR hcc
  exact hcc 0 _ rfl
/-- What grammar leaves. -/
def GramPost (w : World) (g : Nat) (r : PR S25) (e : Ending) (w' : World) : Prop :=
  w.grownBy w' (some g) ∧ match r with
  | .bad l k x => e = Wrong l k x
  | .ok x _ => ∃ v, e = .returned (.agg #[.string x.f0, v]) ∧ k50.R 50 w' w.heap.size (fun _ => True) v x.f1
/-- Behind the start. -/
def StartR (w : World) (g : Nat) (A : Option Addr) (c : Nat) (ts : List S94) (wx : World) : Prop :=
  ∃ s i, startP ts = some (.ok s i) ∧ PE wx g A c ts i 0 ∧ w.grownBy wx (some g) ∧ wx.heap[w.heap.size]? = some zeroGram ∧ wx.heap[w.heap.size + 1]? = some (.cells #[.string s, .slice none 0 0] 25 (0, 0))
/-- Between two rules. -/
def RulesR (w : World) (g : Nat) (A : Option Addr) (c : Nat) (ts : List S94) (m : Nat) (s : ByteArray) (r0 : PR (List S50)) (k : Nat) (sf : Value) (wr : World) : Prop :=
  ∃ i acc first v, sf = .bool first ∧ PE wr g A c ts i 0 ∧ w.grownBy wr (some g) ∧ k50.R 50 wr (w.heap.size + 2) (fun _ => True) v acc ∧ rulesL ts m k first i acc = some r0 ∧ acc.length ≤ 64 ∧ (first = false → 0 < acc.length) ∧
    wr.heap[w.heap.size]? = some zeroGram ∧ wr.heap[w.heap.size + 1]? = some (.cells #[.string s, v] 25 (0, 0))

set_option maxHeartbeats 8000000 in
set_option maxRecDepth 100000 in
theorem grammar_calls (h : PE w g A c ts 0 0) {n : Nat} {r : PR S25} (hr : grammarP ts n = some r) :
    Calls Try.prog 29 #[.pointer (some ⟨g, 0, none⟩)] w (GramPost w g r) := by
  have HP := Aside0.mk h
  have HR := Aside0.mk hr
  have hgl := h.lt
  have hne : g ≠ w.heap.size := by omega
  have hne1 : g ≠ w.heap.size + 1 := by omega
  have G1 := Aside0.mk (grown_alloc (grown_alloc (grown_refl w none) zeroGram) zeroGram)
  have P1 := Aside0.mk (HP.out.grown G1.out)
  have ZA := Aside0.mk (blk_alloc (blk_new w zeroGram) zeroGram)
  have ZB : Aside0 (((w.alloc zeroGram).alloc zeroGram).heap[w.heap.size + 1]? = some zeroGram) := ⟨by have := blk_new (w.alloc zeroGram) zeroGram; rwa [World.size_alloc] at this⟩
  clear h hr
  go_enter Try.func29, Try.ntmps29
  have hstart : ∃ q, startP ts = some q := by
    rcases andThen_some HR.out with ⟨l, k, x, hs, _⟩ | ⟨s, i1, hs, _⟩
    · exact ⟨_, hs⟩
    · exact ⟨_, hs⟩
  obtain ⟨q, hq⟩ := hstart
  have HQ := Aside0.mk hq
  obtain ⟨t, ht, ⟨hf, hh⟩ | ⟨hf, hh⟩⟩ := peekP_some hq
  · have HT := Aside0.mk ht
    have HF := Aside0.mk hf
    have hrr : r = .bad t.f2 t.f3 6 := by
      have := HR.out
      unfold grammarP andThen at this
      rw [hq, hh] at this
      exact (Option.some.inj this).symm
    subst hrr
    clear hq ht hf hh
    go_wp2_with (fail)
    refine (sign_far P1.out HT.out HF.out _).mono ?_
    rintro e w2 ⟨rfl, hg⟩
    go_wp2
    simp only [bodyPost, true_and]
    exact ⟨grown_some (G1.out.trans hg) _, rfl⟩
  · have HT := Aside0.mk ht
    have HF := Aside0.mk hf
    have HH := Aside0.mk hh
    clear hq ht hf hh
    go_upto_if 7 with (go_at_call 38; refine (sign_ok P1.out HT.out HF.out _).mono ?_; rintro e w2 ⟨rfl, hg⟩; have HG := Aside0.mk hg; clear hg)
    have G2 := Aside0.mk (G1.out.trans HG.out)
    have P2 := Aside0.mk (P1.out.grown HG.out)
    have A2 := Aside0.mk (blk_grown ZA.out HG.out (by simp))
    have B2 := Aside0.mk (blk_grown ZB.out HG.out (by simp))
    go_cut [] (fun wx => StartR w g A c ts wx)
    case first =>
      cases hs : signB t ⟨#[37]⟩
      · have HS := Aside0.mk hs
        clear hs
        go_wp2_with (fail)
        go_meet
        case rel => exact ⟨⟨#[]⟩, 0, by rw [HQ.out]; have := HH.out; rw [HS.out] at this; exact this.symm, P2.out, grown_some G2.out _, A2.out, B2.out⟩
      · have HS := Aside0.mk hs
        have hh := HH.out
        rw [hs] at hh
        have hh2 : (andThen (nameP ts 1) fun s j => andThen (takeP ts j ⟨#[59]⟩) fun _ k => some (.ok s k)) = some q := hh
        have HH2 := Aside0.mk hh2
        have h1 : w2.cell? ⟨g, 1, none⟩ = some (.int .i64 0) := cellAt P2.out.blk 1 rfl
        have z1 := blk_frozen P2.out.blk 1
        have P3 : PE (w2.setCell ⟨g, 1, none⟩ (.int .i64 1)) g A c ts 1 0 := P2.out.next
        have KP3 := Aside0.mk P3
        have G3 := Aside0.mk (grown_set (grown_some G2.out (some g)) 1 (.int .i64 1))
        have A3 := Aside0.mk (blk_far A2.out (p := ⟨g, 1, none⟩) (Ne.symm hne) (.int .i64 1))
        have B3 := Aside0.mk (blk_far B2.out (p := ⟨g, 1, none⟩) (Ne.symm hne1) (.int .i64 1))
        clear hh hh2 hs P3
        rcases andThen_some HH2.out with ⟨l, k, x, hn, rfl⟩ | ⟨s, j, hn, hk⟩
        · have HN := Aside0.mk hn
          have hrr : r = .bad l k x := by
            have := HR.out
            unfold grammarP andThen at this
            rw [HQ.out] at this
            exact (Option.some.inj this).symm
          subst hrr
          clear hn
          go_wp2_with (fail)
          refine (name_calls KP3.out HN.out).mono ?_
          rintro e w4 ⟨hg, he⟩
          replace he : e = Wrong l k x := he
          subst he
          go_wp2
          simp only [bodyPost, true_and]
          exact ⟨G3.out.trans hg, rfl⟩
        · have HN := Aside0.mk hn
          have HK := Aside0.mk hk
          clear hn hk
          go_wp2_with (fail)
          refine (name_calls KP3.out HN.out).mono ?_
          rintro e w4 ⟨hg, rfl, hp4⟩
          have P4 := Aside0.mk hp4
          have G4 := Aside0.mk (G3.out.trans hg)
          have A4 := Aside0.mk (blk_kept A3.out hg (Ne.symm hne))
          have hb4 := blk_kept B3.out hg (Ne.symm hne1)
          have B4 := Aside0.mk hb4
          have q0 := cellAt hb4 0 rfl
          have y0 := blk_frozen hb4 0
          have G5 := Aside0.mk (grown_setNew G4.out (p := ⟨w.heap.size + 1, 0, none⟩) (Nat.le_succ _) (.string s))
          have P5 := Aside0.mk (HP.out.step G5.out (blk_far P4.out.blk (p := ⟨w.heap.size + 1, 0, none⟩) hne1 (.string s)))
          have A5 := Aside0.mk (blk_far A4.out (p := ⟨w.heap.size + 1, 0, none⟩) (Nat.ne_of_lt (Nat.lt_succ_self _)) (.string s))
          have B5 : Aside0 ((w4.setCell ⟨w.heap.size + 1, 0, none⟩ (.string s)).heap[w.heap.size + 1]? = some (.cells #[.string s, .slice none 0 0] 25 (0, 0))) := ⟨by have := blk_set B4.out 0 (.string s); simpa using this⟩
          clear hg hp4 hb4
          go_wp2_with (fail)
          rcases andThen_some HK.out with ⟨l, k, x, hn, rfl⟩ | ⟨_, k, hn, hk⟩
          · have hrr : r = .bad l k x := by
              have := HR.out
              unfold grammarP andThen at this
              rw [HQ.out] at this
              exact (Option.some.inj this).symm
            subst hrr
            refine (take_calls P5.out hn).mono ?_
            rintro e w6 ⟨hg, he⟩
            replace he : e = Wrong l k x := he
            subst he
            clear hn
            go_wp2
            simp only [bodyPost, true_and]
            exact ⟨G5.out.trans hg, rfl⟩
          · refine (take_calls P5.out hn).mono ?_
            rintro e w6 ⟨hg, rfl, hp6⟩
            have P6 := Aside0.mk hp6
            have G6 := Aside0.mk (G5.out.trans hg)
            have A6 := Aside0.mk (blk_kept A5.out hg (Ne.symm hne))
            have B6 := Aside0.mk (blk_kept B5.out hg (Ne.symm hne1))
            obtain rfl := Option.some.inj hk
            clear hg hp6 hn hk
            go_wp2_with (fail)
            go_meet
            case rel => exact ⟨s, k, HQ.out, P6.out, G6.out, A6.out, B6.out⟩
    case rest =>
      obtain ⟨s, i1, hst, hp, hg, hA, hB⟩ := hcut
      have PC := Aside0.mk hp
      have GC := Aside0.mk hg
      have AC := Aside0.mk hA
      have BC := Aside0.mk hB
      have hrl : ∃ r0, rulesL ts n n true i1 [] = some r0 ∧ r = r0.map (fun l => ⟨startOf s l, l⟩) := by
        have := HR.out
        unfold grammarP at this
        rw [hst] at this
        obtain ⟨r0, h0, h1⟩ := map_some (show Option.map _ _ = some r from this)
        exact ⟨r0, h0, h1⟩
      obtain ⟨r0, hr0, rfl⟩ := hrl
      have HR0 := Aside0.mk hr0
      clear hst hp hg hA hB hr0
      go_wp2_with (fail)
      go_loopg [4] (n) (fun k s4 wr => RulesR w g A c ts n s r0 k s4 wr)
      case atStart => exact ⟨i1, [], true, _, rfl, PC.out, GC.out, Kd.R_nil _ _ _ _ _, HR0.out, Nat.zero_le _, fun h => (by cases h), AC.out, BC.out⟩
      case round =>
        obtain ⟨i2, acc, first, v, rfl, hp, hg, hv, hrow, hal, hfst, hA, hB⟩ := hrel
        cases gk with
        | zero => exact absurd hrow (by simp [rulesL])
        | succ n' =>
          unfold rulesL at hrow
          have KP := Aside0.mk hp
          have KG := Aside0.mk hg
          have KV := Aside0.mk hv
          have KA := Aside0.mk hA
          have KB := Aside0.mk hB
          have HAL := Aside0.mk hal
          have HFS := Aside0.mk hfst
          obtain ⟨A5, c5, rfl⟩ := Kd.R_slice hv
          clear hp hg hA hB hv hal hfst
          obtain ⟨t2, ht, ⟨hf, hh⟩ | ⟨hf, hh⟩⟩ := peekP_some hrow
          · cases hh
            have HT2 := Aside0.mk ht
            have HF2 := Aside0.mk hf
            clear ht hf hrow
            cases first
            all_goals
              go_wp2_with (fail)
              refine (peek_far KP.out HT2.out HF2.out).mono ?_
              rintro e w5 ⟨rfl, hg⟩
              go_wp2
              simp only [bodyPost, true_and]
              exact ⟨KG.out.trans (grown_some hg _), rfl⟩
          · have HT2 := Aside0.mk ht
            have HF2 := Aside0.mk hf
            have HH2 := Aside0.mk hh
            clear ht hf hrow hh
            go_upto_region 7 with (fail)
            go_cut [26] (fun s26 wx => s26 = .bool (first || (t2.f0 != 4)) ∧ wr.grownBy wx none)
            case first =>
              cases first
              · go_wp2_with (fail)
                refine (peek_ok KP.out HT2.out HF2.out).mono ?_
                rintro e w5 ⟨rfl, hg⟩
                have hfld := fld0 (.int .i64 t2.f0) (.string t2.f1) (.int .i64 t2.f2) (.int .i64 t2.f3)
                go_wp2_with (fail)
                go_meet
                case rel => exact ⟨by simp, hg⟩
              · go_wp2_with (fail)
                go_meet
                case rel => exact ⟨rfl, grown_refl _ _⟩
            case rest =>
              obtain ⟨hv, hg⟩ := hcut
              have LG := Aside0.mk (KG.out.trans (grown_some hg _))
              have LP := Aside0.mk (KP.out.grown hg)
              have LV := Aside0.mk (Kd.R_mono (Kd.R_grown (Kd.R_bound KV.out) hg (by simp)) (fun _ _ => trivial : ∀ k, _ → True))
              have LA := Aside0.mk (blk_grown KA.out hg (by simp))
              have LB := Aside0.mk (blk_grown KB.out hg (by simp))
              clear hg
              cases hb : (first || (t2.f0 != 4))
              · rw [hb] at hv
                subst hv
                simp only [Bool.or_eq_false_iff, bne_eq_false_iff_eq] at hb
                obtain ⟨rfl, h4⟩ := hb
                have hh := HH2.out
                rw [if_pos (by simp [h4])] at hh
                cases hh
                have hpos := HFS.out rfl
                have HPOS := Aside0.mk hpos
                clear hpos h4
                have q0 := cellAt LB.out 0 rfl
                have q1 := cellAt LB.out 1 rfl
                have y0 := blk_frozen LB.out 0
                have r0_ := cellAt LA.out 0 rfl
                have r1_ := cellAt LA.out 1 rfl
                have z0 := blk_frozen LA.out 0
                have z1 := blk_frozen LA.out 1
                have hneb : w.heap.size + 1 ≠ w.heap.size := Nat.succ_ne_self _
                cases he : s.toList.isEmpty
                · have HE := Aside0.mk he
                  go_wp2
                  have HGF := grown_setNew (grown_setNew LG.out (p := ⟨w.heap.size, 0, none⟩) (Nat.le_refl _) (.string s)) (p := ⟨w.heap.size, 1, none⟩) (Nat.le_refl _) (.slice A5 acc.length c5)
                  refine bodyPost_ret (results_cell_row (ty := 25) (p := 2) rfl _ _ w.heap.size 25 #[.string s, .slice A5 acc.length c5] (0, 0) _ rfl ?_ Try.underlying25 rfl infoGram) rfl ⟨HGF, .slice A5 acc.length c5, ?_, ?_⟩
                  · exact gram_store LA.out _ _
                  · show Ending.returned _ = Ending.returned (.agg #[.string (startOf s acc), _])
                    rw [show startOf s acc = s from by unfold startOf; rw [HE.out]; rfl]
                  · exact Kd.R_mono (Kd.R_lower (Kd.R_far (p := ⟨w.heap.size, 1, none⟩) (Kd.R_far (p := ⟨w.heap.size, 0, none⟩) (Kd.R_bound LV.out) (fun k hk e => by have := hk.2.1; dsimp only at e; omega) _) (fun k hk e => by have := hk.2.1; dsimp only at e; omega) _) (by omega)) (fun _ _ => trivial)
                · have HE := Aside0.mk he
                  have he2 : s.toList = [] := by simpa using he
                  obtain ⟨x, l, rfl⟩ : ∃ x l, acc = x :: l := by
                    cases acc with
                    | nil => exact absurd HPOS.out (by simp)
                    | cons x l => exact ⟨x, l, rfl⟩
                  obtain ⟨qq, cap, hv5, hbq, hlq, _⟩ := Kd.R_form LV.out (by simp)
                  cases hv5
                  have hx0 := rules_first LV.out
                  have LB2 : Aside0 ((wc.setCell ⟨w.heap.size + 1, 0, none⟩ (.string x.f0)).heap[w.heap.size + 1]? = some (.cells #[.string x.f0, .slice (some ⟨qq, 0, none⟩) (x :: l).length c5] 25 (0, 0))) := ⟨by have := blk_set LB.out 0 (.string x.f0); simpa using this⟩
                  have LA2 := Aside0.mk (blk_far LA.out (p := ⟨w.heap.size + 1, 0, none⟩) (Ne.symm hneb) (.string x.f0))
                  clear hbq
                  go_wp2
                  have HGF := grown_setNew (grown_setNew (grown_setNew LG.out (p := ⟨w.heap.size + 1, 0, none⟩) (Nat.le_succ _) (.string x.f0)) (p := ⟨w.heap.size, 0, none⟩) (Nat.le_refl _) (.string x.f0)) (p := ⟨w.heap.size, 1, none⟩) (Nat.le_refl _) (.slice (some ⟨qq, 0, none⟩) (x :: l).length c5)
                  refine bodyPost_ret (results_cell_row (ty := 25) (p := 2) rfl _ _ w.heap.size 25 #[.string x.f0, .slice (some ⟨qq, 0, none⟩) (x :: l).length c5] (0, 0) _ rfl ?_ Try.underlying25 rfl infoGram) rfl ⟨HGF, .slice (some ⟨qq, 0, none⟩) (x :: l).length c5, ?_, ?_⟩
                  · exact gram_store LA2.out _ _
                  · show Ending.returned _ = Ending.returned (.agg #[.string (startOf s (x :: l)), _])
                    rw [show startOf s (x :: l) = x.f0 from by unfold startOf; rw [HE.out]; rfl]
                  · exact Kd.R_mono (Kd.R_lower (Kd.R_far (p := ⟨w.heap.size, 1, none⟩) (Kd.R_far (p := ⟨w.heap.size, 0, none⟩) (Kd.R_far (p := ⟨w.heap.size + 1, 0, none⟩) (Kd.R_bound LV.out) (fun k hk e => by have := hk.2.1; dsimp only at e; omega) (.string x.f0)) (fun k hk e => by have := hk.2.1; dsimp only at e; omega) _) (fun k hk e => by have := hk.2.1; dsimp only at e; omega) _) (by omega)) (fun _ _ => trivial)
              · have hh : (if t2.f0 = 1 ∧ acc.length = 64 then some (PR.bad t2.f2 t2.f3 6) else andThen (nameP ts i2) fun name j => andThen (takeP ts j ⟨#[58]⟩) fun _ k => andThen (altP ts n 0 k) fun b l => andThen (takeP ts l ⟨#[59]⟩) fun _ o =>
                    rulesL ts n n' false o (acc ++ [⟨name, b⟩])) = some r0 := by
                  have := HH2.out
                  rwa [if_neg (by cases first <;> simp_all)] at this
                have HH3 := Aside0.mk hh
                rw [hb] at hv
                subst hv
                clear hh hb
                go_upto_region 9 with (fail)
                go_cut [36] (fun s36 wx => s36 = .bool (decide (t2.f0 = 1 ∧ acc.length = 64)) ∧ wc.grownBy wx none)
                case first =>
                  by_cases h1 : t2.f0 = 1
                  · have b1 : (t2.f0 == 1) = true := beq_iff_eq.mpr h1
                    have q1 : ∀ w', wc.grownBy w' none → w'.cell? ⟨w.heap.size + 1, 1, none⟩ = some (.slice A5 acc.length c5) := fun w' hg => cellAt (blk_grown LB.out hg (by simp)) 1 rfl
                    have Q1 := Aside0.mk q1
                    have hfld := fld0 (.int .i64 t2.f0) (.string t2.f1) (.int .i64 t2.f2) (.int .i64 t2.f3)
                    clear q1
                    by_cases h64 : acc.length = 64
                    · have H64 := Aside0.mk h64
                      have H1 := Aside0.mk h1
                      have b2 : ((acc.length : Int) == 64) = true := beq_iff_eq.mpr (by omega)
                      clear h64 h1
                      go_wp2_with (fail)
                      refine (peek_ok LP.out HT2.out HF2.out).mono ?_
                      rintro e w6 ⟨rfl, hg⟩
                      have q1 := Q1.out w6 hg
                      have HG6 := Aside0.mk hg
                      clear hg
                      go_wp2_with (fail)
                      go_meet
                      case rel => exact ⟨by rw [decide_eq_true (show _ ∧ _ from ⟨H1.out, H64.out⟩)], HG6.out⟩
                    · have H64 := Aside0.mk h64
                      have H1 := Aside0.mk h1
                      have b2 : ((acc.length : Int) == 64) = false := beq_eq_false_iff_ne.mpr (by omega)
                      clear h64 h1
                      go_wp2_with (fail)
                      refine (peek_ok LP.out HT2.out HF2.out).mono ?_
                      rintro e w6 ⟨rfl, hg⟩
                      have q1 := Q1.out w6 hg
                      have HG6 := Aside0.mk hg
                      clear hg
                      go_wp2_with (fail)
                      go_meet
                      case rel => exact ⟨by rw [decide_eq_false (show ¬ (_ ∧ _) from fun h => H64.out h.2)], HG6.out⟩
                  · have b1 : (t2.f0 == 1) = false := beq_eq_false_iff_ne.mpr h1
                    have H1 := Aside0.mk h1
                    have hfld := fld0 (.int .i64 t2.f0) (.string t2.f1) (.int .i64 t2.f2) (.int .i64 t2.f3)
                    clear h1
                    go_wp2_with (fail)
                    refine (peek_ok LP.out HT2.out HF2.out).mono ?_
                    rintro e w6 ⟨rfl, hg⟩
                    have HG6 := Aside0.mk hg
                    clear hg
                    go_wp2_with (fail)
                    go_meet
                    case rel => exact ⟨by rw [decide_eq_false (show ¬ (_ ∧ _) from fun h => H1.out h.1)], HG6.out⟩
                case rest =>
                  obtain ⟨hv, hg⟩ := hcut
                  have MG := Aside0.mk (LG.out.trans (grown_some hg _))
                  have MP := Aside0.mk (LP.out.grown hg)
                  have MV := Aside0.mk (Kd.R_mono (Kd.R_grown (Kd.R_bound LV.out) hg (by simp)) (fun _ _ => trivial : ∀ k, _ → True))
                  have MA := Aside0.mk (blk_grown LA.out hg (by simp))
                  have MB := Aside0.mk (blk_grown LB.out hg (by simp))
                  clear hg
                  by_cases hbig : t2.f0 = 1 ∧ acc.length = 64
                  · rw [decide_eq_true hbig] at hv
                    subst hv
                    have hh := HH3.out
                    rw [if_pos hbig] at hh
                    cases hh
                    clear hbig
                    go_wp2_with (fail)
                    refine (fail_at MP.out HT2.out 6).mono ?_
                    rintro e w6 ⟨rfl, hg⟩
                    go_wp2
                    simp only [bodyPost, true_and]
                    exact ⟨MG.out.trans (grown_some hg _), rfl⟩
                  · rw [decide_eq_false hbig] at hv
                    subst hv
                    have hh := HH3.out
                    rw [if_neg hbig] at hh
                    have HBIG := Aside0.mk hbig
                    clear hbig
                    rcases andThen_some hh with ⟨l, k, x, hn, rfl⟩ | ⟨nm, j1, hn, hh1⟩
                    · have HN := Aside0.mk hn
                      clear hn hh
                      go_wp2_with (fail)
                      refine (name_calls MP.out HN.out).mono ?_
                      rintro e w6 ⟨hg, he⟩
                      replace he : e = Wrong l k x := he
                      subst he
                      go_wp2
                      simp only [bodyPost, true_and]
                      exact ⟨MG.out.trans hg, rfl⟩
                    · have HN := Aside0.mk hn
                      have HLEN : Aside0 (acc.length < 64) := ⟨by have := HAL.out; have := HBIG.out; have := nameP_kind HT2.out hn; omega⟩
                      clear hn hh
                      go_wp2_with (fail)
                      refine (name_calls MP.out HN.out).mono ?_
                      rintro e w6 ⟨hg, rfl, hp6⟩
                      have HG6 := Aside0.mk (grown_alloc (MG.out.trans hg) (.cells #[.string nm, .int .i64 0, .string ⟨#[]⟩, .slice none 0 0] 50))
                      have HP6 := Aside0.mk (hp6.grown (grown_alloc (grown_refl _ _) (.cells #[.string nm, .int .i64 0, .string ⟨#[]⟩, .slice none 0 0] 50)))
                      have HV6 := Aside0.mk (Kd.R_alloc (Kd.R_mono (Kd.R_bound (Kd.R_grown (Kd.R_bound MV.out) hg (fun k hk e => by have e := Option.some.inj e; have := hk.2.1; omega))) (fun k hk => ⟨hk.2.1, Nat.ne_of_lt hk.2.2.1⟩ : ∀ k, _ → w.heap.size + 2 ≤ k ∧ k ≠ w6.heap.size)) (.cells #[.string nm, .int .i64 0, .string ⟨#[]⟩, .slice none 0 0] 50))
                      have HA6 := Aside0.mk (blk_alloc (blk_kept MA.out hg (Ne.symm hne)) (.cells #[.string nm, .int .i64 0, .string ⟨#[]⟩, .slice none 0 0] 50))
                      have HB6 := Aside0.mk (blk_alloc (blk_kept MB.out hg (Ne.symm hne1)) (.cells #[.string nm, .int .i64 0, .string ⟨#[]⟩, .slice none 0 0] 50))
                      have HX6 := Aside0.mk (blk_new w6 (.cells #[.string nm, .int .i64 0, .string ⟨#[]⟩, .slice none 0 0] 50))
                      have hbx : w.heap.size + 2 ≤ w6.heap.size := by have := blk_lt (blk_kept MB.out hg (Ne.symm hne1)); omega
                      clear hg hp6
                      rcases andThen_some hh1 with ⟨l, k, x, hn, rfl⟩ | ⟨_, j2, hn, hh2⟩
                      · have HN2 := Aside0.mk hn
                        clear hn hh1
                        go_wp2_with (fail)
                        refine (take_calls HP6.out HN2.out).mono ?_
                        rintro e w7 ⟨hg, he⟩
                        replace he : e = Wrong l k x := he
                        subst he
                        go_wp2
                        simp only [bodyPost, true_and]
                        exact ⟨HG6.out.trans hg, rfl⟩
                      · have HN2 := Aside0.mk hn
                        clear hn hh1
                        go_wp2_with (fail)
                        refine (take_calls HP6.out HN2.out).mono ?_
                        rintro e w7 ⟨hg, rfl, hp7⟩
                        have HG7 := Aside0.mk (HG6.out.trans hg)
                        have HP7 := Aside0.mk hp7
                        have HV7 := Aside0.mk (Kd.R_grown HV6.out hg (fun k hk e => by have e := Option.some.inj e; have := hk.1; omega))
                        have HA7 := Aside0.mk (blk_kept HA6.out hg (Ne.symm hne))
                        have HB7 := Aside0.mk (blk_kept HB6.out hg (Ne.symm hne1))
                        have HX7 := Aside0.mk (blk_kept HX6.out hg (by omega))
                        clear hg hp7
                        rcases andThen_some hh2 with ⟨l, k, x, hn, rfl⟩ | ⟨bd, j3, hn, hh3⟩
                        · have HN3 := Aside0.mk hn
                          clear hn hh2
                          go_wp2_with (fail)
                          refine (alt_calls n _ _ _ _ (by omega) HP7.out HN3.out).mono ?_
                          rintro e w8 ⟨hg, he⟩
                          replace he : e = Wrong l k x := he
                          subst he
                          go_wp2
                          simp only [bodyPost, true_and]
                          exact ⟨HG7.out.trans hg, rfl⟩
                        · have HN3 := Aside0.mk hn
                          clear hn hh2
                          go_wp2_with (fail)
                          refine (alt_calls n _ _ _ _ (by omega) HP7.out HN3.out).mono ?_
                          rintro e w8 ⟨hg, hp8, v8, rfl, hv8⟩
                          obtain ⟨A8, c8, rfl⟩ := Kd.R_slice hv8
                          have hx8 := blk_kept HX7.out hg (by omega)
                          have EG := grown_set4 (grown_refl w8 none) (q := w8.heap.size) (Nat.le_refl _) (.int .i64 bd.f0) (.string bd.f1) (.slice A8 bd.f2.length c8)
                          have HG9 := Aside0.mk (grown_set4 (HG7.out.trans hg) (q := w6.heap.size) (by omega) (.int .i64 bd.f0) (.string bd.f1) (.slice A8 bd.f2.length c8))
                          have HP9 := Aside0.mk (HP.out.step HG9.out (blk_far4 hp8.blk (q := w6.heap.size) (by omega) (.int .i64 bd.f0) (.string bd.f1) (.slice A8 bd.f2.length c8)))
                          have hlx := blk_lt HX7.out
                          have HV9 := Aside0.mk (R_far4 (q := w6.heap.size) (Kd.R_grown HV7.out hg (fun k hk e => by have e := Option.some.inj e; have := hk.1; omega)) (fun k hk => hk.2) (.int .i64 bd.f0) (.string bd.f1) (.slice A8 bd.f2.length c8))
                          have HD9 := Aside0.mk (R_far4 (q := w6.heap.size) (Kd.R_mono (Kd.R_bound hv8) (fun k hk => hk.2.1 : ∀ k, _ → w7.heap.size ≤ k)) (fun k hk => by omega) (.int .i64 bd.f0) (.string bd.f1) (.slice A8 bd.f2.length c8))
                          have HA9 := Aside0.mk (blk_far4 (blk_kept HA7.out hg (Ne.symm hne)) (q := w6.heap.size) (by omega) (.int .i64 bd.f0) (.string bd.f1) (.slice A8 bd.f2.length c8))
                          have HB9 := Aside0.mk (blk_far4 (blk_kept HB7.out hg (Ne.symm hne1)) (q := w6.heap.size) (by omega) (.int .i64 bd.f0) (.string bd.f1) (.slice A8 bd.f2.length c8))
                          have HX9 := Aside0.mk (rule_store hx8 (.int .i64 bd.f0) (.string bd.f1) (.slice A8 bd.f2.length c8))
                          have x1 := cellAt hx8 1 rfl
                          have x2 := cellAt hx8 2 rfl
                          have x3 := cellAt hx8 3 rfl
                          have y1 := blk_frozen hx8 1
                          have y2 := blk_frozen hx8 2
                          have y3 := blk_frozen hx8 3
                          clear hg hp8 hv8 hx8 EG
                          go_wp2_with (fail)
                          rcases andThen_some hh3 with ⟨l, k, x, hn, rfl⟩ | ⟨_, j4, hn, hh4⟩
                          · refine (take_calls HP9.out hn).mono ?_
                            rintro e w11 ⟨hg, he⟩
                            clear hn hh3
                            replace he : e = Wrong l k x := he
                            subst he
                            go_wp2
                            simp only [bodyPost, true_and]
                            exact ⟨HG9.out.trans hg, rfl⟩
                          · refine (take_calls HP9.out hn).mono ?_
                            rintro e w11 ⟨hg, rfl, hp11⟩
                            have HROW := Aside0.mk hh4
                            have HGc := Aside0.mk (HG9.out.trans hg)
                            have HPc := Aside0.mk hp11
                            have HVc := Aside0.mk (Kd.R_grown HV9.out hg (fun k hk e => by have e := Option.some.inj e; have := hk.1; omega))
                            have HDc := Aside0.mk (Kd.R_grown HD9.out hg (fun k hk e => by have e := Option.some.inj e; omega))
                            have HAc := Aside0.mk (blk_kept HA9.out hg (Ne.symm hne))
                            have hbc := blk_kept HB9.out hg (Ne.symm hne1)
                            have HBc := Aside0.mk hbc
                            have hxc := blk_kept HX9.out hg (show w6.heap.size ≠ g by omega)
                            have HXc := Aside0.mk hxc
                            have HM_ := Aside0.mk (k50_mkM w11 (w.heap.size + 2) (fun k => w7.heap.size ≤ k) (⟨nm, bd⟩ : S50) (Kd.R_lower HDc.out (by omega)))
                            have hlv : ∀ k, (Value.slice A5 acc.length c5).ownBlock = some k → w.heap.size + 2 ≤ k ∧ k < w7.heap.size := fun k hk => ⟨Kd.R_base HV7.out k hk, Kd.R_lt HV7.out k hk⟩
                            have HLV := Aside0.mk hlv
                            have HF_ : Aside0 (∀ k, w7.heap.size ≤ k → (w.heap.size + 2 ≤ k ∧ k ≠ w6.heap.size) ∧ some k ≠ (Value.slice A5 acc.length c5).ownBlock) := ⟨fun k hk => ⟨⟨by omega, by omega⟩, fun e => by have := hlv k e.symm; omega⟩⟩
                            have hls := HP9.out.lt
                            have HFR : Aside0 (∀ k, w11.heap.size ≤ k → w.heap.size + 2 ≤ k ∧ k ≠ w6.heap.size) := ⟨fun k hk => by have := blk_lt hxc; omega⟩
                            have HBS := Aside0.mk (show w.heap.size + 2 ≤ w11.heap.size from by have := blk_lt hxc; omega)
                            have q1 := cellAt hbc 1 rfl
                            have xx0 := cellAt hxc 0 rfl
                            have xx1 := cellAt hxc 1 rfl
                            have xx2 := cellAt hxc 2 rfl
                            have xx3 := cellAt hxc 3 rfl
                            clear hg hp11 hbc hxc hn hh3 hh4 x1 x2 x3 y1 y2 y3 hlv hls
                            go_wp2_with (first | ((with_reducible refine gate_builtin (b := .append) (xs := #[.tmp 50, .tmp 52]) rfl ?_); at_builtin; refine Kd.R_append k50 (w0 := w11) (w.heap.size + 2) rfl (.tmp 50) (.tmp 52) 23 50 (.agg #[(.string ⟨#[]⟩), (.int .i64 0), (.string ⟨#[]⟩), (.slice none 0 0)]) 64 rfl Try.underlying23 infoRules rfl (by decide) (by decide) (.slice A5 acc.length c5) acc (⟨nm, bd⟩ : S50) [.string nm, .int .i64 bd.f0, .string bd.f1, .slice A8 bd.f2.length c8] (fun k => w.heap.size + 2 ≤ k ∧ k ≠ w6.heap.size) (fun k => w7.heap.size ≤ k) rfl rfl HM_.out HF_.out HFR.out HVc.out (Below.refl _ _) HBS.out (by have := HLEN.out; omega) ?_; intro v1 w12 hO hB hG hat; obtain ⟨A9, c9, rfl⟩ := Kd.R_slice hO; have HO12 := Aside0.mk hO; have HG12 := Aside0.mk hG; have hb12 := blk_grown HBc.out hG (fun e => by have := HLV.out _ e.symm; omega); have HB12 := Aside0.mk hb12; have z1 := cellAt hb12 1 rfl; have zf1 := blk_frozen hb12 1; clear hO hB hG hat hb12))
                            have hO := HO12.out
                            have elen : (acc ++ [(⟨nm, bd⟩ : S50)]).length = acc.length + 1 := by simp
                            rw [elen] at hO
                            have G12 := grown_newer HGc.out HG12.out (fun k hk => by have := HLV.out k hk; omega)
                            have GF := grown_setNew G12 (p := ⟨w.heap.size + 1, 1, none⟩) (Nat.le_succ _) (.slice A9 (acc.length + 1) c9)
                            go_roundg n'
                            case measure => omega
                            case rel =>
                              refine ⟨_, acc ++ [⟨nm, bd⟩], false, .slice A9 (acc.length + 1) c9, rfl, HP.out.step GF ?_, GF, ?_, HROW.out, ?_, ?_, ?_, ?_⟩
                              · exact blk_far (blk_grown HPc.out.blk HG12.out (fun e => by have := HLV.out _ e.symm; omega)) (p := ⟨w.heap.size + 1, 1, none⟩) hne1 _
                              · exact Kd.R_mono (Kd.R_far (p := ⟨w.heap.size + 1, 1, none⟩) hO (fun k hk e => by have := hk.1; dsimp only at e; omega) _) (fun _ _ => trivial)
                              · have := HLEN.out; rw [elen]; omega
                              · intro _; rw [elen]; omega
                              · exact blk_far (blk_grown HAc.out HG12.out (fun e => by have := HLV.out _ e.symm; omega)) (p := ⟨w.heap.size + 1, 1, none⟩) (Nat.ne_of_lt (Nat.lt_succ_self _)) _
                              · have := blk_set HB12.out 1 (.slice A9 (acc.length + 1) c9)
                                simpa using this
end
end Go.Proofs.Ytdbkooliafkcgaa.Sw

set_option linter.unusedVariables false
set_option linter.unusedSimpArgs false
namespace Go.Proofs.Ytdbkooliafkcgaa.Sw
open Go.RowKit Go.Proofs.YtdbkooliafkcgaaW.PrintWords Go.Proofs.YtdbkooliafkcgaaW.PrintLast Go.Proofs.YtdbkooliafkcgaaW.PrintMore Go.Proofs.Ytdbkooliafkcgaa Go.Proofs.Ytdbkooliafkcgaa.P Go.Proofs.Ytdbkooliafkcgaa.Lw

theorem asserted (l k x : Int) (w : World) : (Instr.typeAssert (.iface 79 (.agg #[.int .i64 l, .int .i64 k, .int .i64 x])) 20 79 true).run Try.prog w = .ok (.tuple #[.agg #[.int .i64 l, .int .i64 k, .int .i64 x], .bool true]) w := by kernel_rfl
set_option maxHeartbeats 4000000 in
set_option maxRecDepth 100000 in
theorem catch_wrong {w : World} {p q : Nat} {x0 x1 y0 y1 y2 : Value} (hp : w.heap[p]? = some (.cells #[x0, x1] 25 (0, 0))) (hq : w.heap[q]? = some (.cells #[y0, y1, y2] 57 (0, 0))) (hpq : p < q) (l k x : Int) (older : List PanicEntry) :
    CallsD Try.prog 28 #[.pointer (some ⟨p, 0, none⟩), .pointer (some ⟨q, 0, none⟩)] (.panicking ({ v := .iface 79 (.agg #[.int .i64 l, .int .i64 k, .int .i64 x]), recovered := false } :: older)) w fun e u' w' =>
      e = .returned (.tuple #[]) ∧ u' = .panicking ({ v := .iface 79 (.agg #[.int .i64 l, .int .i64 k, .int .i64 x]), recovered := true } :: older) ∧
      w'.heap[p]? = some zeroGram ∧ w'.heap[q]? = some (.cells #[.int .i64 l, .int .i64 k, .int .i64 x] 57 (0, 0)) ∧ Below p w w' := by
  have HP := Aside0.mk hp
  have HQ := Aside0.mk hq
  clear hp hq
  refine callsD_of_wpS Try.func28 rfl fun c₀ cs hu => ?_
  apply wpS_seq
  apply wpS_region
  simp [wpOpsS, go_sem, recoverD, hu, Try.ntmps28, Exit.thenS]
  apply wpS_seq
  apply wpS_region
  simp [wpOpsS, go_sem, Exit.thenS]
  simp only [Array.replicate_succ, Array.replicate_zero, List.push_toArray, List.append_toArray, List.nil_append, List.cons_append, List.setIfInBounds_toArray, List.set_cons_zero, List.set_cons_succ]
  refine wpS_cond (t := true) (by simp [Act.eval]) ?_
  simp only [if_true]
  refine wpS_of_wp ?_
  have p0 : ∀ o, (w.alloc o).cell? ⟨p, 0, none⟩ = some x0 := fun o => cellAt (blk_alloc HP.out o) 0 rfl
  have p1 : ∀ o, (w.alloc o).cell? ⟨p, 1, none⟩ = some x1 := fun o => cellAt (blk_alloc HP.out o) 1 rfl
  have q0 : ∀ o, (w.alloc o).cell? ⟨q, 0, none⟩ = some y0 := fun o => cellAt (blk_alloc HQ.out o) 0 rfl
  have q1 : ∀ o, (w.alloc o).cell? ⟨q, 1, none⟩ = some y1 := fun o => cellAt (blk_alloc HQ.out o) 1 rfl
  have q2 : ∀ o, (w.alloc o).cell? ⟨q, 2, none⟩ = some y2 := fun o => cellAt (blk_alloc HQ.out o) 2 rfl
  have fp0 := fun o => blk_frozen (blk_alloc HP.out o) 0
  have fp1 := fun o => blk_frozen (blk_alloc HP.out o) 1
  have fq0 := fun o => blk_frozen (blk_alloc HQ.out o) 0
  have fq1 := fun o => blk_frozen (blk_alloc HQ.out o) 1
  have fq2 := fun o => blk_frozen (blk_alloc HQ.out o) 2
  have np : p ≠ w.heap.size := Nat.ne_of_lt (blk_lt HP.out)
  have nq : q ≠ w.heap.size := Nat.ne_of_lt (blk_lt HQ.out)
  have npq : p ≠ q := Nat.ne_of_lt hpq
  have ha := asserted l k x
  go_wp2_with (fail)
  refine start_ (n := 5) (S := fun w' => w'.cell? ⟨w.heap.size, 0, none⟩ = some (.int .i64 l) ∧ w'.cell? ⟨w.heap.size, 1, none⟩ = some (.int .i64 k) ∧ w'.cell? ⟨w.heap.size, 2, none⟩ = some (.int .i64 x)) (ds := [4]) #[false, false, false, false, false] (by kernel_rfl) rfl rfl ⟨(by go_simp), (by go_simp), (by go_simp)⟩ (fun hHeld => ?_)
  refine pure_ (i := 0) (N := some 16) (v := ?_) (a' := ?_) #[true, false, false, false, false] rfl rfl (by kernel_rfl) (fun _ _ _ h => h) (Or.inl ⟨by rfl, ?_⟩) ?_ ?_
  rotate_left
  · intro w'
    go_simp
    with_reducible rfl
  rotate_left
  · simp only [Act.put, List.setIfInBounds_toArray, List.set_cons_zero, List.set_cons_succ, i64_w, i32_w]
    rfl
  refine pure_ (i := 1) (N := some 17) (v := ?_) (a' := ?_) #[true, true, false, false, false] rfl rfl (by kernel_rfl) (fun _ _ _ h => h) (Or.inl ⟨by rfl, ?_⟩) ?_ ?_
  rotate_left
  · intro w'
    go_simp
    with_reducible rfl
  rotate_left
  · simp only [Act.put, List.setIfInBounds_toArray, List.set_cons_zero, List.set_cons_succ, i64_w, i32_w]
    rfl
  refine take_ (i := 2) (N := some 18) (v := ?_) (a' := ?_) #[true, true, true, false, false] rfl rfl (by kernel_rfl) (fun _ _ _ h => h) (Or.inl ⟨by rfl, ?_⟩) hHeld ?_ ?_
  rotate_left
  · rintro w' ⟨s0, s1, s2⟩
    go_simp
    with_reducible rfl
  rotate_left
  · simp only [Act.put, List.setIfInBounds_toArray, List.set_cons_zero, List.set_cons_succ, i64_w, i32_w]
    rfl
  refine one_ (i := 3) (N := none) #[true, true, true, true, false] rfl rfl (by kernel_rfl) (by decide) (fun K hK => ?_)
  refine skip_ (w1 := ?_) (by rfl) rfl ?_ ?_
  rotate_left
  · go_simp
    rfl
  refine hK.out _ _ ⟨(by go_simp), (by go_simp), (by go_simp)⟩ (fun hHeld => ?_)
  clear hK K
  refine last_ (i := 4) (N := none) #[true, true, true, true, true] rfl rfl (by kernel_rfl) (by decide) (fun K hK => ?_)
  refine skip_ (w1 := ?_) (by rfl) rfl ?_ ?_
  rotate_left
  · go_simp
    rfl
  refine hK.out _ _ ?_
  clear hK K
  refine done_ (by kernel_rfl) ?_
  go_wp2
  refine ⟨rfl, _, rfl, _, results_none rfl _ _ _, rfl, rfl, ?_, ?_, ?_⟩
  · exact blk_far3 (gram_store (blk_alloc HP.out _) _ _) npq _ _ _
  · exact node_store (blk_far (blk_far (blk_alloc HQ.out _) (p := ⟨p, 0, none⟩) (Ne.symm npq) _) (p := ⟨p, 1, none⟩) (Ne.symm npq) _) _ _ _
  · exact below_drew ((((((((Below.refl p w).alloc (Nat.le_of_lt (blk_lt HP.out)) _).setCell (p := ⟨p, 0, none⟩) (Nat.le_refl _) _).setCell (p := ⟨p, 1, none⟩) (Nat.le_refl _) _).setCell (p := ⟨q, 0, none⟩) (Nat.le_of_lt hpq) _).setCell (p := ⟨q, 1, none⟩) (Nat.le_of_lt hpq) _).setCell (p := ⟨q, 2, none⟩) (Nat.le_of_lt hpq) _))

theorem catch_idle (p q : Nat) (w : World) :
    CallsD Try.prog 28 #[.pointer (some ⟨p, 0, none⟩), .pointer (some ⟨q, 0, none⟩)] .returning w fun e u' w' => e = .returned (.tuple #[]) ∧ u' = .returning ∧ w' = w := by
  refine callsD_of_wpS Try.func28 rfl fun c₀ cs hu => ?_
  apply wpS_seq
  apply wpS_region
  simp [wpOpsS, go_sem, recoverD, hu, Try.ntmps28, Exit.thenS]
  apply wpS_seq
  apply wpS_region
  simp [wpOpsS, go_sem, Exit.thenS]
  refine wpS_cond (t := false) (by simp [Act.eval]) ?_
  simp only [Bool.false_eq_true, if_false]
  refine wpS_of_wp (wp_skip ?_)
  cases c₀
  simp_all [bodyPostS, results, Try.results28]

/-- What Parse tells: the grammar, or the fault. -/
def parseR (s : ByteArray) : Option (PR S25) :=
  match Lx.scan s.data.toList with
  | .error f => some (.bad f.p.1 f.p.2 f.code)
  | .ok ts => grammarP (ts.map toS) (ts.length + 2)
/-- What Parse leaves. -/
def ParsePost (w : World) (r : PR S25) (e : Ending) (w' : World) : Prop :=
  Below w.heap.size w w' ∧ match r with
  | .bad l k x => e = .returned (.tuple #[.agg #[.string ⟨#[]⟩, .slice none 0 0], .agg #[.int .i64 l, .int .i64 k, .int .i64 x]])
  | .ok g _ => ∃ v, e = .returned (.tuple #[.agg #[.string g.f0, v], .agg #[.int .i64 0, .int .i64 0, .int .i64 0]]) ∧ k50.R 50 w' w.heap.size (fun _ => True) v g.f1
theorem infoFault : (Try.prog.info? 57).map (·.size) = some 3 := by kernel_rfl
abbrev zeroFault : Obj := .cells #[.int .i64 0, .int .i64 0, .int .i64 0] 57
theorem skip_len (l : List UInt8) : ∀ (b : Bool) (p : Int × Int), (Lx.skip b l p).1.length ≤ l.length := by
  induction l with
  | nil => intro b p; cases b <;> simp [Lx.skip]
  | cons c cs ih =>
    intro b p
    cases b
    · unfold Lx.skip
      split
      · exact Nat.le_succ_of_le (ih _ _)
      · split
        · exact Nat.le_succ_of_le (ih _ _)
        · exact Nat.le_refl _
    · unfold Lx.skip
      split
      · exact Nat.le_succ_of_le (ih _ _)
      · exact Nat.le_succ_of_le (ih _ _)
theorem scanF_code {n : Nat} : ∀ {l : List UInt8} {p : Int × Int} {acc : List Lx.Tok} {f : Lx.Flt}, l.length < n → Lx.scanF n l p acc = .error f → f.code ≠ 0 := by
  induction n with
  | zero => intro l p acc f h0 h; omega
  | succ n ih =>
    intro l p acc f h0 h
    unfold Lx.scanF at h
    have hl := skip_len l false p
    cases hsk : Lx.skip false l p with
    | mk l' p' =>
      rw [hsk] at h hl
      cases l' with
      | nil => cases h
      | cons c cs =>
        simp only at h
        cases ht : Lx.token c cs p' with
        | error f' =>
          rw [ht] at h
          cases h
          unfold Lx.token at ht
          repeat' split at ht
          all_goals first
            | (cases ht; done)
            | (cases ht; simp)
        | ok r =>
          obtain ⟨t, rest, p''⟩ := r
          rw [ht] at h
          have := Lx.token_len ht
          simp only [List.length_cons] at hl
          exact ih (by omega) h
theorem scan_code {l : List UInt8} {f : Lx.Flt} (h : Lx.scan l = .error f) : f.code ≠ 0 := by
  unfold Lx.scan at h
  split at h
  · cases h; simp
  · exact scanF_code (Nat.lt_succ_self _) h
theorem below_then' {B : Nat} {w w1 w2 : World} {g : Nat} (h : Below B w w1) (hg : w1.grownBy w2 (some g)) (hB : B ≤ g ∧ B ≤ w1.heap.size) : Below B w w2 :=
  h.grown hg hB.2 (fun k hk => by have e := Option.some.inj hk; omega)
set_option maxHeartbeats 8000000 in
set_option maxRecDepth 100000 in
theorem parse_calls {s : ByteArray} {w : World} {r : PR S25} (hr : parseR s = some r) :
    Calls Try.prog 18 #[.string s] w (ParsePost w r) := by
  have hmf : ∀ (fn : Fn) (first cap : Array Value) (w : World), (Instr.makeFunc fn first cap).run Try.prog w = .ok (.func fn first cap) w := fun _ _ _ _ => rfl
  have HR := Aside0.mk hr
  have ZA := Aside0.mk (blk_alloc (blk_new w zeroGram) zeroFault)
  have ZB : Aside0 (((w.alloc zeroGram).alloc zeroFault).heap[w.heap.size + 1]? = some zeroFault) := ⟨by have := blk_new (w.alloc zeroGram) zeroFault; rwa [World.size_alloc] at this⟩
  have B1 := Aside0.mk (below_alloc (below_alloc (Below.refl w.heap.size w) zeroGram) zeroFault)
  clear hr
  go_enter_defers Try.func18, Try.ntmps18
  cases hs : Lx.scan s.data.toList with
  | error f =>
    have hok : lex_Scan.f s = some ([], f.p.1, f.p.2, f.code) := by unfold lex_Scan.f; rw [hs]
    have HOK := Aside0.mk hok
    have hrr : r = .bad f.p.1 f.p.2 f.code := by
      have := HR.out
      unfold parseR at this
      rw [hs] at this
      exact (Option.some.inj this).symm
    subst hrr
    have hcode : (f.code != 0) = true := bne_iff_ne.mpr (scan_code hs)
    clear hs hok
    go_wp2_with (fail)
    refine (lex_Scan.calls s _ _ _ _ _ HOK.out).mono ?_
    rintro e w2 ⟨v0, rfl, hv, hb⟩
    obtain ⟨A, c, rfl⟩ := Kd.R_slice hv
    have B2 := Aside0.mk (below_step B1.out hb)
    have za2 := blk_below ZA.out hb
    have zb2 := blk_below ZB.out hb
    have ZA2 := Aside0.mk za2
    have ZB2 := Aside0.mk zb2
    have q0 := cellAt zb2 0 rfl
    have q1 := cellAt zb2 1 rfl
    have q2 := cellAt zb2 2 rfl
    have y0 := blk_frozen zb2 0
    have y1 := blk_frozen zb2 1
    have y2 := blk_frozen zb2 2
    have p0 := cellAt za2 0 rfl
    have p1 := cellAt za2 1 rfl
    have fp0 := blk_frozen za2 0
    have fp1 := blk_frozen za2 1
    have npq : w.heap.size ≠ w.heap.size + 1 := Nat.ne_of_lt (Nat.lt_succ_self _)
    clear hv hb za2 zb2
    go_wp2_with (fail)
    go_region
    go_wp2
    refine ⟨_, results_cc (ty := 25) (ty' := 57) (p := 2) (p' := 3) rfl _ _ w.heap.size (w.heap.size + 1) 25 57 #[.string ⟨#[]⟩, .slice none 0 0] #[.int .i64 f.p.1, .int .i64 f.p.2, .int .i64 f.code] (0, 0) (0, 0) _ _ rfl ?_ Try.underlying25 rfl infoGram rfl ?_ Try.underlying57 rfl infoFault, ?_, rfl⟩
    · exact blk_drew (blk_far3 (gram_store (blk_far3 ZA2.out npq _ _ _) _ _) npq _ _ _)
    · exact blk_drew (node_store (blk_far (blk_far (node_store ZB2.out _ _ _) (p := ⟨w.heap.size, 0, none⟩) (Ne.symm npq) _) (p := ⟨w.heap.size, 1, none⟩) (Ne.symm npq) _) _ _ _)
    · have l1 := Nat.le_succ w.heap.size
      have l0 := Nat.le_refl w.heap.size
      exact below_drew ((((((((B2.out.setCell (p := ⟨w.heap.size + 1, 0, none⟩) l1 _).setCell (p := ⟨w.heap.size + 1, 1, none⟩) l1 _).setCell (p := ⟨w.heap.size + 1, 2, none⟩) l1 _).setCell (p := ⟨w.heap.size, 0, none⟩) l0 _).setCell (p := ⟨w.heap.size, 1, none⟩) l0 _).setCell (p := ⟨w.heap.size + 1, 0, none⟩) l1 _).setCell (p := ⟨w.heap.size + 1, 1, none⟩) l1 _).setCell (p := ⟨w.heap.size + 1, 2, none⟩) l1 _)
  | ok toks =>
    have hok : lex_Scan.f s = some (toks.map toS, 0, 0, 0) := by unfold lex_Scan.f; rw [hs]
    have HOK := Aside0.mk hok
    have hs' := Aside0.mk hs
    clear hs hok
    go_wp2_with (fail)
    refine (lex_Scan.calls s _ _ _ _ _ HOK.out).mono ?_
    rintro e w2 ⟨v0, rfl, hv, hb⟩
    obtain ⟨A, c, rfl⟩ := Kd.R_slice hv
    have B2 := Aside0.mk (below_step B1.out hb)
    have za2 := blk_below ZA.out hb
    have zb2 := blk_below ZB.out hb
    have ZA2 := Aside0.mk za2
    have ZB2 := Aside0.mk zb2
    have q0 := cellAt zb2 0 rfl
    have q1 := cellAt zb2 1 rfl
    have q2 := cellAt zb2 2 rfl
    have y0 := blk_frozen zb2 0
    have y1 := blk_frozen zb2 1
    have y2 := blk_frozen zb2 2
    have HV2 := Aside0.mk hv
    clear hv hb za2 zb2
    go_wp2_with (fail)
    have hsz : (((w2.setCell ⟨w.heap.size + 1, 0, none⟩ (.int .i64 0)).setCell ⟨w.heap.size + 1, 1, none⟩ (.int .i64 0)).setCell ⟨w.heap.size + 1, 2, none⟩ (.int .i64 0)).heap.size = w2.heap.size := by simp [World.setCell]
    have hlen : (toks.map toS).length = toks.length := List.length_map _
    have hlt2 := blk_lt ZB2.out
    have B3 := Aside0.mk (grown_set3 (grown_refl w2 (some (w.heap.size + 1))) (q := w2.heap.size) (Nat.le_refl _) (.int .i64 0) (.int .i64 0) (.int .i64 0))
    have BB3 : Aside0 (Below w.heap.size w (((w2.setCell ⟨w.heap.size + 1, 0, none⟩ (.int .i64 0)).setCell ⟨w.heap.size + 1, 1, none⟩ (.int .i64 0)).setCell ⟨w.heap.size + 1, 2, none⟩ (.int .i64 0))) :=
      ⟨((B2.out.setCell (p := ⟨w.heap.size + 1, 0, none⟩) (Nat.le_succ _) _).setCell (p := ⟨w.heap.size + 1, 1, none⟩) (Nat.le_succ _) _).setCell (p := ⟨w.heap.size + 1, 2, none⟩) (Nat.le_succ _) _⟩
    have ZA3 := Aside0.mk (blk_far3 ZA2.out (q := w.heap.size + 1) (Nat.ne_of_lt (Nat.lt_succ_self _)) (.int .i64 0) (.int .i64 0) (.int .i64 0))
    have ZB3 := Aside0.mk (node_store ZB2.out (.int .i64 0) (.int .i64 0) (.int .i64 0))
    have HV3 := Aside0.mk (R_far3 (Kd.R_mono (Kd.R_bound HV2.out) (fun k hk => ⟨hk.2.1, hk.2.2.1⟩ : ∀ k, _ → ((w.alloc zeroGram).alloc zeroFault).heap.size ≤ k ∧ k < w2.heap.size)) (q := w.heap.size + 1) (fun k hk => by have := hk.1; simp at this; omega) (.int .i64 0) (.int .i64 0) (.int .i64 0))
    generalize hW3 : (((w2.setCell ⟨w.heap.size + 1, 0, none⟩ (.int .i64 0)).setCell ⟨w.heap.size + 1, 1, none⟩ (.int .i64 0)).setCell ⟨w.heap.size + 1, 2, none⟩ (.int .i64 0)) = W3 at hsz BB3 ZA3 ZB3 HV3 ⊢
    clear hW3 B3
    have hbn := blk_new W3 (.cells #[.slice A toks.length c, .int .i64 0, .int .i64 0] 83)
    rw [hsz] at hbn
    have HPE : PE (W3.alloc (.cells #[.slice A toks.length c, .int .i64 0, .int .i64 0] 83)) w2.heap.size A c (toks.map toS) 0 0 := by
      refine ⟨?_, ?_⟩
      · unfold PAt
        rw [hlen]
        exact hbn
      · exact Kd.R_lower (Kd.R_mono (Kd.R_alloc HV3.out _) (fun k hk => Nat.ne_of_lt hk.2)) (Nat.zero_le _)
    have KPE := Aside0.mk HPE
    have ZA4 := Aside0.mk (blk_alloc ZA3.out (.cells #[.slice A toks.length c, .int .i64 0, .int .i64 0] 83))
    have ZB4 := Aside0.mk (blk_alloc ZB3.out (.cells #[.slice A toks.length c, .int .i64 0, .int .i64 0] 83))
    have BB4 := Aside0.mk (below_alloc BB3.out (.cells #[.slice A toks.length c, .int .i64 0, .int .i64 0] 83))
    have HGR := Aside0.mk (show grammarP (toks.map toS) (toks.length + 2) = some r by have := HR.out; unfold parseR at this; rw [hs'.out] at this; exact this)
    have hsz4 : (W3.alloc (.cells #[.slice A toks.length c, .int .i64 0, .int .i64 0] 83)).heap.size = w2.heap.size + 1 := by simp [hsz]
    clear hbn HPE hsz hlen q0 q1 q2 y0 y1 y2
    generalize (W3.alloc (.cells #[.slice A toks.length c, .int .i64 0, .int .i64 0] 83)) = W4 at KPE ZA4 ZB4 BB4 hsz4 ⊢
    refine (grammar_calls KPE.out HGR.out).mono ?_
    rintro e w5 ⟨hg, he⟩
    have za5 := blk_kept ZA4.out hg (show w.heap.size ≠ w2.heap.size by omega)
    have zb5 := blk_kept ZB4.out hg (show w.heap.size + 1 ≠ w2.heap.size by omega)
    have ZA5 := Aside0.mk za5
    have ZB5 := Aside0.mk zb5
    have BB5 : Below w.heap.size w w5 := below_then' BB4.out hg (by omega)
    have KB5 := Aside0.mk BB5
    cases r with
    | bad l k x =>
      replace he : e = Wrong l k x := he
      subst he
      clear za5 zb5 hg BB5
      go_wp2
      refine leaves_cons (f := 28) (args := #[.pointer (some ⟨w.heap.size, 0, none⟩), .pointer (some ⟨w.heap.size + 1, 0, none⟩)]) (by simp) (by simp [go_sem]) ?_
      refine (catch_wrong ZA5.out ZB5.out (Nat.lt_succ_self _) l k x []).mono ?_
      rintro e u' w6 ⟨rfl, rfl, hp6, hq6, hb6⟩
      show Leaves _ _ _ _ [] FrameMode.returning w6
      refine ⟨_, results_cc (ty := 25) (ty' := 57) (p := 2) (p' := 3) rfl _ _ w.heap.size (w.heap.size + 1) 25 57 #[.string ⟨#[]⟩, .slice none 0 0] #[.int .i64 l, .int .i64 k, .int .i64 x] (0, 0) (0, 0) _ _ rfl hp6 Try.underlying25 rfl infoGram rfl hq6 Try.underlying57 rfl infoFault, ?_, rfl⟩
      exact KB5.out.trans hb6
    | ok x j =>
      obtain ⟨v, rfl, hv⟩ := he
      obtain ⟨A5, c5, rfl⟩ := Kd.R_slice hv
      have HV5 := Aside0.mk hv
      have p0 := cellAt za5 0 rfl
      have p1 := cellAt za5 1 rfl
      have q0 := cellAt zb5 0 rfl
      have q1 := cellAt zb5 1 rfl
      have q2 := cellAt zb5 2 rfl
      have fp0 := blk_frozen za5 0
      have fp1 := blk_frozen za5 1
      have fq0 := blk_frozen zb5 0
      have fq1 := blk_frozen zb5 1
      have fq2 := blk_frozen zb5 2
      clear hv za5 zb5 hg BB5
      have npq : w.heap.size ≠ w.heap.size + 1 := Nat.ne_of_lt (Nat.lt_succ_self _)
      go_wp2
      refine leaves_cons (f := 28) (args := #[.pointer (some ⟨w.heap.size, 0, none⟩), .pointer (some ⟨w.heap.size + 1, 0, none⟩)]) (by simp) (by simp [go_sem]) ?_
      refine (catch_idle _ _ _).mono ?_
      rintro e u' w6 ⟨rfl, rfl, rfl⟩
      show Leaves _ _ _ _ [] FrameMode.returning _
      have hlt := Aside0.mk (blk_lt ZB5.out)
      refine ⟨_, results_cc (ty := 25) (ty' := 57) (p := 2) (p' := 3) rfl _ _ w.heap.size (w.heap.size + 1) 25 57 #[.string x.f0, .slice A5 x.f1.length c5] #[.int .i64 0, .int .i64 0, .int .i64 0] (0, 0) (0, 0) _ _ rfl ?_ Try.underlying25 rfl infoGram rfl ?_ Try.underlying57 rfl infoFault, ?_, .slice A5 x.f1.length c5, rfl, ?_⟩
      · exact blk_far3 (gram_store ZA5.out _ _) npq _ _ _
      · exact node_store (blk_far (blk_far ZB5.out (p := ⟨w.heap.size, 0, none⟩) (Ne.symm npq) _) (p := ⟨w.heap.size, 1, none⟩) (Ne.symm npq) _) _ _ _
      · exact ((((KB5.out.setCell (p := ⟨w.heap.size, 0, none⟩) (Nat.le_refl _) _).setCell (p := ⟨w.heap.size, 1, none⟩) (Nat.le_refl _) _).setCell (p := ⟨w.heap.size + 1, 0, none⟩) (Nat.le_succ _) _).setCell (p := ⟨w.heap.size + 1, 1, none⟩) (Nat.le_succ _) _).setCell (p := ⟨w.heap.size + 1, 2, none⟩) (Nat.le_succ _) _
      · exact Kd.R_mono (Kd.R_lower (R_far3 (Kd.R_far (p := ⟨w.heap.size, 1, none⟩) (Kd.R_far (p := ⟨w.heap.size, 0, none⟩) (Kd.R_bound HV5.out) (fun k hk e => by have := hk.2.1; dsimp only at e; omega) _) (fun k hk e => by have := hk.2.1; dsimp only at e; omega) _) (fun k hk e => by have := hk.2.1; omega) _ _ _) (by omega)) (fun _ _ => trivial)
end Go.Proofs.Ytdbkooliafkcgaa.Sw
