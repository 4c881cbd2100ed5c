/- The reference's parser: row. -/
import Derived.Test.YtgllncnfhiiobaaRefN
import Derived.Deep.DeepCutAuto
import Derived.Deep.RegionHeld3
import Derived.Deep.AppendLies
import Derived.Deep.CutBlock
set_option linter.unusedVariables false
set_option linter.unusedSimpArgs false
namespace Go.Proofs.Ytgllncnfhiiobaa.Rw
open Go.RowKit Go.Proofs.YtgllncnfhiiobaaW.PrintWords Go.Proofs.YtgllncnfhiiobaaW.PrintLast Go.Proofs.YtgllncnfhiiobaaW.PrintMore Go.Proofs.Ytgllncnfhiiobaa Go.Proofs.Ytgllncnfhiiobaa.P Go.Proofs.Ytgllncnfhiiobaa.Lw Go.Proofs.Ytgllncnfhiiobaa.Sw

abbrev nodeBox (k : Int) (x : ByteArray) (v : Value) : Obj := .cells #[.int .i64 k, .string x, v] 78
/-- What a part of the reference's parser that tells a node leaves. -/
def RPost (w : World) (g : Nat) (A : Option Addr) (c : Nat) (ts : List S102) (r : S78 × RS) (e : Ending) (w' : World) : Prop :=
  w.grownBy w' (some g) ∧ RE w' g A c ts r.2 ∧ ∃ v, e = .returned (.agg #[.int .i64 r.1.f0, .string r.1.f1, v]) ∧ k78.R 78 w' w.heap.size (fun _ => True) v r.1.f2
/-- The alternation's contract. -/
def AltCR (g : Nat) (A : Option Addr) (c : Nat) (ts : List S102) (Alt : RS → Option (S78 × RS)) : Prop :=
  ∀ (w : World) (s : RS) (r : S78 × RS), RE w g A c ts s → Alt s = some r → Calls Try.prog 26 #[.pointer (some ⟨g, 0, none⟩)] w (RPost w g A c ts r)
/-- Behind all items. -/
def RowEnd (w : World) (g : Nat) (A : Option Addr) (c : Nat) (ts : List S102) (l : List S78) (s' : RS) (v : Value) (wx : World) : Prop :=
  RE wx g A c ts s' ∧ w.grownBy wx (some g) ∧ wx.heap[w.heap.size]? = some (nodeBox 0 ⟨#[]⟩ (.slice none 0 0)) ∧
    wx.heap[w.heap.size + 1]? = some (nodeBox 3 ⟨#[]⟩ v) ∧ k78.R 78 wx (w.heap.size + 2) (fun _ => True) v l
/-- Between two items. -/
def RowRR (w : World) (g : Nat) (A : Option Addr) (c : Nat) (ts : List S102) (Alt : RS → Option (S78 × RS)) (n : Nat) (r : List S78 × RS) (k : Nat) (wr : World) : Prop :=
  ∃ s1 acc v, RowEnd w g A c ts acc s1 v wr ∧ rowR Alt ts k s1 acc = some r ∧ acc.length + k ≤ n
section
variable {w w' : World} {g : Nat} {A : Option Addr} {c : Nat} {ts : List S102} {s : RS} {t : S102}
theorem RowEnd.on {wr w3 : World} {l : List S78} {s3 : RS} (hl : g < w.heap.size) {v : Value} (H : RowEnd w g A c ts l s v wr) (hg : wr.grownBy w3 (some g)) (hp : RE w3 g A c ts s3) : RowEnd w g A c ts l s3 v w3 := by
  obtain ⟨_, hg0, hz, hb, hv⟩ := H
  refine ⟨hp, hg0.trans hg, blk_kept hz hg (by omega), blk_kept hb hg (by omega), ?_⟩
  exact Kd.R_mono (Kd.R_grown (Kd.R_bound hv) hg (fun k hk e => by have e := Option.some.inj e; have := hk.2.1; omega)) (fun _ _ => trivial)
theorem RE.nextW (h : RE w g A c ts s) (hm : (s.at_ : Int) + 1 ≤ 9223372036854775807) : RE (w.setCell ⟨g, 1, none⟩ (.int .i64 (wrap64 ((s.at_ : Int) + 1)))) g A c ts s.next := by
  rw [show wrap64 ((s.at_ : Int) + 1) = (s.at_ : Int) + 1 from by unfold wrap64; omega]
  exact h.next
theorem RowEnd.zero (h : RE w g A c ts s) : RowEnd w g A c ts [] s (.slice none 0 0) ((w.alloc (nodeBox 0 ⟨#[]⟩ (.slice none 0 0))).alloc (nodeBox 3 ⟨#[]⟩ (.slice none 0 0))) := by
  refine ⟨h.grown (grown_alloc (grown_alloc (grown_refl _ _) _) _), grown_alloc (grown_alloc (grown_refl _ _) _) _, blk_alloc (blk_new w _) _, ?_, Kd.R_nil _ _ _ _ _⟩
  have := blk_new (w.alloc (nodeBox 0 ⟨#[]⟩ (.slice none 0 0))) (nodeBox 3 ⟨#[]⟩ (.slice none 0 0))
  rwa [World.size_alloc] at this
/-- Behind an item, ahead of its sign. -/
def ItemRR (w : World) (g : Nat) (A : Option Addr) (c : Nat) (ts : List S102) (acc : List S78) (o : Option (Option S78 × RS)) (w3 : World) (b : Nat) (va : Value) (wx : World) : Prop :=
  ∃ x s2 v, o = some (some x, s2) ∧ w3.grownBy wx (some g) ∧ RowEnd w g A c ts acc s2 va wx ∧ wx.heap[w3.heap.size]? = some (nodeBox x.f0 x.f1 v) ∧ k78.R 78 wx b (fun k => k ≠ w3.heap.size) v x.f2
set_option maxHeartbeats 8000000 in
set_option maxRecDepth 100000 in
theorem row_calls {Alt : RS → Option (S78 × RS)} (HA : AltCR g A c ts Alt) (h : RE w g A c ts s) {n : Nat} (hn : n ≤ 1000000) {r : List S78 × RS} (hr : rowR Alt ts n s [] = some r) :
    Calls Try.prog 53 #[.pointer (some ⟨g, 0, none⟩)] w (RPost w g A c ts (oneR 3 r.1, r.2)) := by
  have HP := Aside0.mk h
  have HR := Aside0.mk hr
  have HAA := Aside0.mk HA
  have HN := Aside0.mk hn
  have hne := h.ne_new
  clear h hr HA hn
  go_enter Try.func53, Try.ntmps53
  go_upto_block 0 with (fail)
  go_cut [] (fun wx => ∃ v, RowEnd w g A c ts r.1 r.2 v wx)
  case first =>
    go_wp2_with (fail)
    go_loopg [] n (fun k wr => RowRR w g A c ts Alt n r k wr)
    case atStart =>
      exact ⟨s, [], _, RowEnd.zero HP.out, HR.out, by simp⟩
    case round =>
      obtain ⟨s1, acc, v, he, hrow, hal⟩ := hrel
      have KE := Aside0.mk he
      obtain ⟨hp, hg, hz, hb, hv⟩ := he
      have hlt := Aside0.mk HP.out.lt
      cases gk with
      | zero => exact absurd hrow (by simp [rowR])
      | succ m =>
        unfold rowR at hrow
        split at hrow
        · cases hrow
        rename_i t ht
        obtain ⟨q, hi, hk⟩ := Option.bind_eq_some_iff.1 hrow
        have KP := Aside0.mk hp
        have KG := Aside0.mk hg
        have KV := Aside0.mk hv
        have KZ := Aside0.mk hz
        have KB := Aside0.mk hb
        have HT := Aside0.mk ht
        have HI := Aside0.mk hi
        have HK := Aside0.mk hk
        have HAL := Aside0.mk hal
        clear hrow hp hg hv hz hb ht hi hk hal
        go_wp2_with (fail)
        refine (look_calls KP.out HT.out).mono ?_
        rintro e w3 ⟨rfl, hg3, hp3⟩
        have HP3 := Aside0.mk hp3
        have HG3 := Aside0.mk hg3
        clear hp3 hg3
        go_upto_if 16 with (fail)
        go_cut [6, 7] (fun s6 s7 wx => s6 = .string (endT t).1 ∧ s7 = .int .i64 (endT t).2 ∧ wx = w3)
        case first =>
          by_cases k3 : t.f0 = 3
          · have b3 : (t.f0 == 3) = true := beq_iff_eq.mpr k3
            cases e40 : t.f1.toList == [40]
            · cases e91 : t.f1.toList == [91]
              · cases e123 : t.f1.toList == [123]
                · have e0 : endT t = (⟨#[]⟩, 0) := by unfold endT; rw [if_pos k3, e40, e91, e123]; rfl
                  go_wp2
                  go_meet
                  case rel => exact ⟨by rw [e0], by rw [e0], rfl⟩
                · have e0 : endT t = (⟨#[125]⟩, 6) := by unfold endT; rw [if_pos k3, e40, e91, e123]; rfl
                  go_wp2
                  go_meet
                  case rel => exact ⟨by rw [e0], by rw [e0], rfl⟩
              · have e0 : endT t = (⟨#[93]⟩, 5) := by unfold endT; rw [if_pos k3, e40, e91]; rfl
                go_wp2
                go_meet
                case rel => exact ⟨by rw [e0], by rw [e0], rfl⟩
            · have e0 : endT t = (⟨#[41]⟩, 0) := by unfold endT; rw [if_pos k3, e40]; rfl
              go_wp2
              go_meet
              case rel => exact ⟨by rw [e0], by rw [e0], rfl⟩
          · have b3 : (t.f0 == 3) = false := beq_eq_false_iff_ne.mpr k3
            have e0 : endT t = (⟨#[]⟩, 0) := by unfold endT; rw [if_neg k3]
            go_wp2
            go_meet
            case rel => exact ⟨by rw [e0], by rw [e0], rfl⟩
        case rest =>
          obtain ⟨rfl, rfl, hw⟩ := hcut
          replace hw := hw.symm
          subst hw
          have RE3 := Aside0.mk (RowEnd.on hlt.out KE.out HG3.out HP3.out)
          have h4 := cellAt HP3.out.blk 4 rfl
          go_upto_region 13 with (fail)
          go_cut [37] (fun s37 wx => s37 = .bool (stopT t (lookT t s1)) ∧ wx = w3)
          case first =>
            cases he : (endT t).1.toList.isEmpty
            · cases b0 : ((lookT t s1).e != 0)
              · have e0 : stopT t (lookT t s1) = false := by unfold stopT; rw [b0, he, Bool.and_false]; rfl
                cases b1 : decide (2 < t.f0)
                · go_wp2
                  go_meet
                  case rel => exact ⟨by rw [e0], rfl⟩
                · go_wp2
                  go_meet
                  case rel => exact ⟨by rw [e0], rfl⟩
              · have e0 : stopT t (lookT t s1) = true := by unfold stopT; rw [b0]; rfl
                go_wp2
                go_meet
                case rel => exact ⟨by rw [e0], rfl⟩
            · cases b0 : ((lookT t s1).e != 0)
              · cases b1 : decide (2 < t.f0)
                · have e0 : stopT t (lookT t s1) = false := by unfold stopT; rw [b0, he, b1]; rfl
                  go_wp2
                  go_meet
                  case rel => exact ⟨by rw [e0], rfl⟩
                · have e0 : stopT t (lookT t s1) = true := by unfold stopT; rw [b0, he, b1]; rfl
                  go_wp2
                  go_meet
                  case rel => exact ⟨by rw [e0], rfl⟩
              · have e0 : stopT t (lookT t s1) = true := by unfold stopT; rw [b0]; rfl
                go_wp2
                go_meet
                case rel => exact ⟨by rw [e0], rfl⟩
          case rest =>
            obtain ⟨rfl, hw⟩ := hcut
            replace hw := hw.symm
            subst hw
            cases hst : stopT t (lookT t s1)
            · have HM := Aside0.mk (HP3.out.small (t := t) (by rw [lookT_at]; exact HT.out))
              have hn3 := HP3.out.ne_new
              go_upto_if 42 with (fail)
              go_cut [] (fun wx => ItemRR w g A c ts acc (itemR Alt ts t (lookT t s1)) w3 wr.heap.size v wx)
              -- <A
              case first =>
                have BX := Aside0.mk (blk_new w3 (nodeBox t.f0 t.f1 (.slice none 0 0)))
                have RE4 := Aside0.mk (fun (o : Obj) => RowEnd.on hlt.out RE3.out (grown_alloc (grown_refl w3 (some g)) o) (HP3.out.grown (grown_alloc (grown_refl w3 none) o)))
                have KW := Aside0.mk HG3.out.size
                have h1 := fun (o : Obj) => cellAt (RE4.out o).1.blk 1 rfl
                have z1 := fun (o : Obj) => blk_frozen (RE4.out o).1.blk 1
                have h5 := fun (o : Obj) => cellAt (RE4.out o).1.blk 5 rfl
                have z5 := fun (o : Obj) => blk_frozen (RE4.out o).1.blk 5
                cases he : (endT t).1.toList.isEmpty
                · by_cases hop : (lookT t s1).op = 16
                  · have b5 : ((lookT t s1).op == 16) = true := beq_iff_eq.mpr hop
                    have e0 : q = (none, badT t (lookT t s1) 11) := by
                      have := HI.out
                      unfold itemR at this
                      rw [hst, he, if_pos hop] at this
                      exact (Option.some.inj this).symm
                    subst e0
                    have e1 := Option.some.inj (show some (acc, badT t (lookT t s1) 11) = some r from HK.out)
                    subst e1
                    clear hst hop
                    go_wp2_with (fail)
                    refine (bad_calls (RE4.out _).1 (by rw [lookT_at]; exact HT.out) 11).mono ?_
                    rintro e w5 ⟨rfl, hg5, hp5⟩
                    have HP5 := Aside0.mk hp5
                    have HG5 := Aside0.mk hg5
                    clear hp5 hg5
                    go_wp2
                    go_meet
                    case rel => exact ⟨_, RowEnd.on hlt.out (RE4.out _) HG5.out HP5.out⟩
                  · have b5 : ((lookT t s1).op == 16) = false := beq_eq_false_iff_ne.mpr hop
                    have hi := HI.out
                    unfold itemR at hi
                    simp only [hst, he, Bool.false_eq_true, if_false, if_neg hop] at hi
                    obtain ⟨r2, ha, hi⟩ := Option.bind_eq_some_iff.1 hi
                    split at hi
                    · cases hi
                    rename_i t2 ht2
                    have HA2 := Aside0.mk ha
                    have HT2 := Aside0.mk ht2
                    have HI2 := Aside0.mk hi
                    clear hst hop ha ht2 hi
                    go_wp2_with (fail)
                    have RA := ((HP3.out.grown (grown_alloc (grown_refl w3 none) (nodeBox t.f0 t.f1 (.slice none 0 0)))).up (wrap64 ((lookT t s1).op + 1))).nextW HM.out
                    have GA := Aside0.mk (grown_set (grown_set (grown_alloc (grown_refl w3 (some g)) (nodeBox t.f0 t.f1 (.slice none 0 0))) 5 (.int .i64 (wrap64 ((lookT t s1).op + 1)))) 1 (.int .i64 (wrap64 (((lookT t s1).at_ : Int) + 1))))
                    have BA := blk_far (blk_far BX.out (p := ⟨g, 5, none⟩) (Ne.symm hn3) (.int .i64 (wrap64 ((lookT t s1).op + 1)))) (p := ⟨g, 1, none⟩) (Ne.symm hn3) (.int .i64 (wrap64 (((lookT t s1).at_ : Int) + 1)))
                    refine (HAA.out _ _ _ RA HA2.out).mono ?_
                    rintro e w5 ⟨hg5, hp5, v5, rfl, hv5⟩
                    obtain ⟨A5, c5, rfl⟩ := Kd.R_slice hv5
                    have HP5 := Aside0.mk hp5
                    have HG5 := Aside0.mk (GA.out.trans hg5)
                    have HV5 := Aside0.mk (Kd.R_lower hv5 (show w3.heap.size + 1 ≤ _ from by simp [World.setCell]))
                    have BX5 := Aside0.mk (Sw.blk_kept BA hg5 (Ne.symm hn3))
                    have k0 := cellAt BX5.out 0 rfl
                    have k1 := cellAt BX5.out 1 rfl
                    have k2 := cellAt BX5.out 2 rfl
                    have y0 := blk_frozen BX5.out 0
                    have y1 := blk_frozen BX5.out 1
                    have y2 := blk_frozen BX5.out 2
                    clear RA BA hp5 hg5 hv5
                    go_wp2_with (fail)
                    have G6 := Aside0.mk (grown_set3 HG5.out (q := w3.heap.size) (Nat.le_refl _) (.int .i64 r2.1.f0) (.string r2.1.f1) (.slice A5 r2.1.f2.length c5))
                    have hp6 := HP3.out.step G6.out (s' := r2.2) (blk_far3 HP5.out.blk hn3 _ _ _)
                    have hb6 := node_store BX5.out (.int .i64 r2.1.f0) (.string r2.1.f1) (.slice A5 r2.1.f2.length c5)
                    have hv6 := R_far3 (Kd.R_bound HV5.out) (q := w3.heap.size) (fun k hk e => by have := hk.2.1; omega) (.int .i64 r2.1.f0) (.string r2.1.f1) (.slice A5 r2.1.f2.length c5)
                    refine (need_calls hp6 HT2.out (endT t).1).mono ?_
                    rintro e w6 ⟨rfl, hg6, hp6'⟩
                    have HP6 := Aside0.mk hp6'
                    have G7 := Aside0.mk (G6.out.trans hg6)
                    have BX6 := Aside0.mk (Sw.blk_kept hb6 hg6 (Ne.symm hn3))
                    have hlt3 := HP3.out.lt
                    have HV6 := Aside0.mk (Kd.R_mono (Kd.R_grown hv6 hg6 (fun k hk e => by have e := Option.some.inj e; have := hk.2.1; omega)) (fun k hk => (show w3.heap.size < k from hk.2.1)))
                    clear hp6 hb6 hv6 hg6 hp6' k0 k1 k2 y0 y1 y2
                    have g4 := cellAt HP6.out.blk 4 rfl
                    by_cases hn : (needT t2 r2.2 (endT t).1).e = 0
                    · have b6 : ((needT t2 r2.2 (endT t).1).e != 0) = false := bne_eq_false_iff_eq.mpr hn
                      have g5 := cellAt HP6.out.blk 5 rfl
                      have v5 := blk_frozen HP6.out.blk 5
                      by_cases hk0 : 0 < (endT t).2
                      · have b7 : decide (0 < (endT t).2) = true := decide_eq_true hk0
                        have e0 := HI2.out
                        rw [if_pos hn, if_pos hk0] at e0
                        have E0 := Aside0.mk (HI.out.trans e0.symm)
                        have BX7 := Aside0.mk (blk_far BX6.out (p := ⟨g, 5, none⟩) (Ne.symm hn3) (.int .i64 (wrap64 ((needT t2 r2.2 (endT t).1).op - 1))))
                        have FB := Aside0.mk (fun o => blk_alloc BX7.out o)
                        have x0 := cellAt BX6.out 0 rfl
                        have x1 := cellAt BX6.out 1 rfl
                        have x2 := cellAt BX6.out 2 rfl
                        have v0 := fun o => blk_frozen (FB.out o) 0
                        have v1 := fun o => blk_frozen (FB.out o) 1
                        have v2 := fun o => blk_frozen (FB.out o) 2
                        have k0 := fun o => cellAt (FB.out o) 0 rfl
                        have k1 := fun o => cellAt (FB.out o) 1 rfl
                        have k2 := fun o => cellAt (FB.out o) 2 rfl
                        clear hn hk0 e0
                        go_wp2
                        go_meet
                        case rel =>
                          have GE := grown_set3 (w := w3) (grown_alloc (grown_set G7.out 5 (.int .i64 (wrap64 ((needT t2 r2.2 (endT t).1).op - 1)))) (nodeBox r2.1.f0 r2.1.f1 (.slice A5 r2.1.f2.length c5))) (q := w3.heap.size) (Nat.le_refl _) (.int .i64 (endT t).2) (.string ⟨#[]⟩) (.slice (some ⟨w6.heap.size, 0, none⟩) 1 1)
                          refine ⟨wrapR (endT t).2 r2.1, _, _, E0.out, GE, RowEnd.on hlt.out RE3.out GE (HP3.out.step GE (blk_far3 ((HP6.out.up _).grown (grown_alloc (grown_refl _ _) _)).blk hn3 _ _ _)), node_store (FB.out _) _ _ _, ?_⟩
                          have hl6 := blk_lt BX6.out
                          have hsz : (w6.setCell ⟨g, 5, none⟩ (.int .i64 (wrap64 ((needT t2 r2.2 (endT t).1).op - 1)))).heap.size = w6.heap.size := by simp [World.setCell]
                          have HV7 := R_oneK (ok' := fun k => k ≠ w3.heap.size) (Kd.R_far (p := ⟨g, 5, none⟩) (Kd.R_bound HV6.out) (fun k hk e => by have := hk.2.1; dsimp only at e; omega) (.int .i64 (wrap64 ((needT t2 r2.2 (endT t).1).op - 1)))) (by rw [hsz]; omega) (fun k hk _ => Nat.ne_of_gt hk.1) (by rw [hsz]; omega)
                          rw [hsz] at HV7
                          exact Kd.R_lower (R_far3 HV7 (fun k hk => hk) _ _ _) (by have := KW.out; omega)
                      · have b7 : decide (0 < (endT t).2) = false := decide_eq_false hk0
                        have e0 := HI2.out
                        rw [if_pos hn, if_neg hk0] at e0
                        have E0 := Aside0.mk (HI.out.trans e0.symm)
                        clear hn hk0 e0
                        go_wp2
                        go_meet
                        case rel =>
                          refine ⟨r2.1, _, _, E0.out, grown_set G7.out 5 _, RowEnd.on hlt.out RE3.out (grown_set G7.out 5 _) (HP6.out.up _), blk_far BX6.out (p := ⟨g, 5, none⟩) (Ne.symm hn3) _, ?_⟩
                          exact Kd.R_lower (Kd.R_mono (Kd.R_far (p := ⟨g, 5, none⟩) (Kd.R_bound HV6.out) (fun k hk e => by have := hk.2.1; dsimp only at e; omega) _) (fun k hk => Nat.ne_of_gt hk.1)) (by have := KW.out; omega)
                    · have b6 : ((needT t2 r2.2 (endT t).1).e != 0) = true := bne_iff_ne.mpr hn
                      have e0 := HI2.out
                      rw [if_neg hn] at e0
                      cases e0
                      have e1 := Option.some.inj (show some (acc, needT t2 r2.2 (endT t).1) = some r from HK.out)
                      subst e1
                      clear hn
                      go_wp2
                      go_meet
                      case rel => exact ⟨_, RowEnd.on hlt.out RE3.out G7.out HP6.out⟩
                · have e0 : itemR Alt ts t (lookT t s1) = some (some ⟨t.f0, t.f1, []⟩, (lookT t s1).next) := by
                    unfold itemR
                    rw [hst, he]
                    rfl
                  have E0 := Aside0.mk e0
                  clear hst e0

                  go_wp2_with (fail)
                  go_meet
                  case rel =>
                    have e0 := E0.out
                    refine ⟨⟨t.f0, t.f1, []⟩, _, .slice none 0 0, e0, grown_set (grown_alloc (grown_refl w3 (some g)) _) 1 _, RowEnd.on hlt.out (RE4.out _) (grown_set (grown_refl _ _) 1 _) ((RE4.out _).1.nextW HM.out), ?_, ?_⟩
                    · exact blk_far BX.out (p := ⟨g, 1, none⟩) (Ne.symm hn3) _
                    · exact Kd.R_nil _ _ _ _ _
              -- A>
              case rest =>
                obtain ⟨x, s2, v2, e0, h3c, hE, hbx, hvx⟩ := hcut
                obtain ⟨A2, c2, rfl⟩ := Kd.R_slice hvx
                have KG2 := Aside0.mk h3c
                have KW0 := Aside0.mk HG3.out.size
                have K3L := Aside0.mk HP3.out.lt
                have e1 : q = (some x, s2) := Option.some.inj (HI.out.symm.trans e0)
                subst e1
                have hk := HK.out
                simp only at hk
                split at hk
                · cases hk
                rename_i t2 ht2
                have KE2 := Aside0.mk hE
                have KX2 := Aside0.mk hbx
                have KV2 := Aside0.mk hvx
                have KT2 := Aside0.mk ht2
                have KK2 := Aside0.mk hk
                have KN3 := Aside0.mk hn3
                clear e0 hE hbx hvx ht2 hk h4 hst hn3 h3c
                go_wp2_with (fail)
                refine (is_calls KE2.out.1 KT2.out ⟨#[63]⟩).mono ?_
                rintro e w6 ⟨rfl, hg6, hp6⟩
                have P6 := Aside0.mk hp6
                have G6 := Aside0.mk hg6
                clear hg6 hp6
                go_upto_if 96 with (fail)
                go_cut [7] (fun s7 wx => s7 = .int .i64 (suf1 t2 s2) ∧ wx = w6)
                case first =>
                  cases q1 : isT t2 s2 ⟨#[63]⟩
                  · go_wp2
                    go_meet
                    case rel => exact ⟨by unfold suf1; rw [q1]; rfl, rfl⟩
                  · go_wp2
                    go_meet
                    case rel => exact ⟨by unfold suf1; rw [q1]; rfl, rfl⟩
                case rest =>
                  obtain ⟨rfl, hw⟩ := hcut
                  replace hw := hw.symm
                  subst hw
                  go_wp2_with (fail)
                  refine (is_calls P6.out (by rw [lookT_at]; exact KT2.out) ⟨#[42]⟩).mono ?_
                  rintro e w7 ⟨rfl, hg7, hp7⟩
                  rw [isT_look]
                  rw [lookT_look] at hp7
                  have P7 := Aside0.mk hp7
                  have G7 := Aside0.mk (G6.out.trans hg7)
                  clear hg7 hp7
                  go_upto_if 98 with (fail)
                  go_cut [7] (fun s7 wx => s7 = .int .i64 (suf2 t2 s2) ∧ wx = w7)
                  case first =>
                    cases q2 : isT t2 s2 ⟨#[42]⟩
                    · go_wp2
                      go_meet
                      case rel => exact ⟨by unfold suf2; rw [q2]; rfl, rfl⟩
                    · go_wp2
                      go_meet
                      case rel => exact ⟨by unfold suf2; rw [q2]; rfl, rfl⟩
                  case rest =>
                    obtain ⟨rfl, hw⟩ := hcut
                    replace hw := hw.symm
                    subst hw
                    go_wp2_with (fail)
                    refine (is_calls P7.out (by rw [lookT_at]; exact KT2.out) ⟨#[43]⟩).mono ?_
                    rintro e w8 ⟨rfl, hg8, hp8⟩
                    rw [isT_look]
                    rw [lookT_look] at hp8
                    have P8 := Aside0.mk hp8
                    have G8 := Aside0.mk (G7.out.trans hg8)
                    clear hg8 hp8
                    go_upto_if 100 with (fail)
                    go_cut [7] (fun s7 wx => s7 = .int .i64 (sufK t2 s2) ∧ wx = w8)
                    case first =>
                      cases q3 : isT t2 s2 ⟨#[43]⟩
                      · have e0 : sufK t2 s2 = suf2 t2 s2 := by unfold sufK; rw [q3]; rfl
                        go_wp2
                        go_meet
                        case rel => exact ⟨by rw [e0], rfl⟩
                      · have e0 : sufK t2 s2 = 7 := by unfold sufK; rw [q3]; rfl
                        go_wp2
                        go_meet
                        case rel => exact ⟨by rw [e0], rfl⟩
                    case rest =>
                      obtain ⟨rfl, hw⟩ := hcut
                      replace hw := hw.symm
                      subst hw
                      have E8 := Aside0.mk (RowEnd.on hlt.out KE2.out G8.out P8.out)
                      have G38 := Aside0.mk (KG2.out.trans G8.out)
                      have BX8 := Aside0.mk (Sw.blk_kept KX2.out G8.out (Ne.symm KN3.out))
                      have LWR := Aside0.mk (show g < wr.heap.size from KE.out.1.lt)
                      have HV8 := Aside0.mk (Kd.R_mono (Kd.R_grown (Kd.R_bound KV2.out) G8.out (fun k hk e => by have e := Option.some.inj e; have := hk.2.1; have := LWR.out; omega)) (fun k hk => (show k ≠ w3.heap.size from hk.1)))
                      have HM2 := Aside0.mk (P8.out.small (t := t2) (by rw [lookT_at]; exact KT2.out))
                      have hn3 := KN3.out
                      go_upto_if 102 with (fail)
                      go_cut [] (fun wx => ItemRR w g A c ts acc (some (some (sufT t2 s2 x).1, (sufT t2 s2 x).2)) w3 wr.heap.size v wx)
                      case first =>
                        have h1 := cellAt P8.out.blk 1 rfl
                        have z1 := blk_frozen P8.out.blk 1
                        have BX7 := Aside0.mk (blk_far BX8.out (p := ⟨g, 1, none⟩) (Ne.symm hn3) (.int .i64 (wrap64 (((lookT t2 s2).at_ : Int) + 1))))
                        have FB := Aside0.mk (fun o => blk_alloc BX7.out o)
                        have x0 := cellAt BX8.out 0 rfl
                        have x1 := cellAt BX8.out 1 rfl
                        have x2 := cellAt BX8.out 2 rfl
                        have v0 := fun o => blk_frozen (FB.out o) 0
                        have v1 := fun o => blk_frozen (FB.out o) 1
                        have v2 := fun o => blk_frozen (FB.out o) 2
                        have k0 := fun o => cellAt (FB.out o) 0 rfl
                        have k1 := fun o => cellAt (FB.out o) 1 rfl
                        have k2 := fun o => cellAt (FB.out o) 2 rfl
                        by_cases hk0 : 0 < sufK t2 s2
                        · have b7 : decide (0 < sufK t2 s2) = true := decide_eq_true hk0
                          have e0 : sufT t2 s2 x = (wrapR (sufK t2 s2) x, (lookT t2 s2).next) := if_pos hk0
                          have E0 := Aside0.mk e0
                          have HK0 := Aside0.mk hk0
                          clear hk0 e0
                          go_wp2
                          any_goals (first | (exfalso; have := HK0.out; omega) | skip)
                          go_meet
                          case rel =>
                            have GE := grown_set3 (w := w3) (grown_alloc (grown_set G38.out 1 (.int .i64 (wrap64 (((lookT t2 s2).at_ : Int) + 1)))) (nodeBox x.f0 x.f1 (.slice A2 x.f2.length c2))) (q := w3.heap.size) (Nat.le_refl _) (.int .i64 (sufK t2 s2)) (.string ⟨#[]⟩) (.slice (some ⟨w8.heap.size, 0, none⟩) 1 1)
                            refine ⟨wrapR (sufK t2 s2) x, _, _, by rw [E0.out], GE, RowEnd.on hlt.out RE3.out GE (HP3.out.step GE (blk_far3 ((P8.out.nextW HM2.out).grown (grown_alloc (grown_refl _ _) _)).blk hn3 _ _ _)), node_store (FB.out _) _ _ _, ?_⟩
                            have hl6 := blk_lt BX8.out
                            have hsz : (w8.setCell ⟨g, 1, none⟩ (.int .i64 (wrap64 (((lookT t2 s2).at_ : Int) + 1)))).heap.size = w8.heap.size := by simp [World.setCell]
                            have HV7 := R_oneK (ok' := fun k => k ≠ w3.heap.size) (Kd.R_far (p := ⟨g, 1, none⟩) (Kd.R_bound HV8.out) (fun k hk e => by have := hk.2.1; have := LWR.out; dsimp only at e; omega) (.int .i64 (wrap64 (((lookT t2 s2).at_ : Int) + 1)))) (by rw [hsz]; have := KW0.out; omega) (fun k hk _ => hk.1) (by rw [hsz]; omega)
                            rw [hsz] at HV7
                            exact R_far3 HV7 (fun k hk => hk) _ _ _
                        · have b7 : decide (0 < sufK t2 s2) = false := decide_eq_false hk0
                          have e0 : sufT t2 s2 x = (x, lookT t2 s2) := if_neg hk0
                          have E0 := Aside0.mk e0
                          have HK0 := Aside0.mk hk0
                          clear hk0 e0
                          go_wp2
                          any_goals (first | (exfalso; have := HK0.out; omega) | skip)
                          go_meet
                          case rel => exact ⟨x, _, _, by rw [E0.out], G38.out, E8.out, BX8.out, HV8.out⟩
                      case rest =>
                        obtain ⟨y, s3, vy, ey, h3x, hE3, hby, hvy⟩ := hcut
                        simp only [Option.some.injEq, Prod.mk.injEq] at ey
                        obtain ⟨ey1, ey2⟩ := ey
                        have HROW : Aside0 (rowR Alt ts m s3 (acc ++ [y]) = some r) := ⟨by rw [← ey1, ← ey2]; exact KK2.out⟩
                        clear ey1 ey2
                        obtain ⟨A5, c5, rfl⟩ := Kd.R_slice hvy
                        obtain ⟨hp9, hg9, hz9, hb9, hva⟩ := hE3
                        have HWB := Aside0.mk (fun k hk => Kd.R_lt KV.out k hk : ∀ k, v.ownBlock = some k → k < wr.heap.size)
                        obtain ⟨A1, c1, rfl⟩ := Kd.R_slice hva
                        have HPc := Aside0.mk hp9
                        have HGc := Aside0.mk hg9
                        have HZc := Aside0.mk hz9
                        have HBc := Aside0.mk hb9
                        have HVc := Aside0.mk hva
                        have HM_ := Aside0.mk (k78_mkM wc (w.heap.size + 2) (fun k => wr.heap.size ≤ k) y (Kd.R_lower (Kd.R_mono (Kd.R_bound hvy) (fun k hk => hk.2.1)) (by have := blk_lt KB.out; omega)))
                        have x0 := cellAt hby 0 rfl
                        have x1 := cellAt hby 1 rfl
                        have x2 := cellAt hby 2 rfl
                        have n2 := cellAt hb9 2 rfl
                        clear hp9 hg9 hz9 hb9 hva hby hvy h3x
                        have HAL2 := Aside0.mk (show acc.length + 1 ≤ 1000000 from by have := HAL.out; have := HN.out; omega)
                        have HF_ : Aside0 (∀ k, wr.heap.size ≤ k → True ∧ some k ≠ (Value.slice A1 acc.length c1).ownBlock) := ⟨fun k hk => ⟨trivial, fun e => by have := HWB.out k e.symm; omega⟩⟩
                        have HBS := Aside0.mk (show w.heap.size + 2 ≤ wc.heap.size from by have := blk_lt HBc.out; omega)
                        have hbb := Aside0.mk (fun k hk => Kd.R_base HVc.out k hk : ∀ k, (Value.slice A1 acc.length c1).ownBlock = some k → w.heap.size + 2 ≤ k)
                        go_wp2_with (first | ((with_reducible refine gate_builtin (b := .append) (xs := #[.tmp 115, .tmp 117]) rfl ?_); at_builtin; refine Kd.R_append k78 (w0 := wc) (w.heap.size + 2) rfl (.tmp 115) (.tmp 117) 76 78 (.agg #[(.int .i64 0), (.string ⟨#[]⟩), (.slice none 0 0)]) 48 rfl Try.underlying76 infoNodes rfl (by decide) (by decide) (.slice A1 acc.length c1) acc y [.int .i64 y.f0, .string y.f1, .slice A5 y.f2.length c5] (fun _ => True) (fun k => wr.heap.size ≤ k) rfl rfl HM_.out HF_.out (fun _ _ => trivial) HVc.out (Below.refl _ _) HBS.out (by have := HAL2.out; omega) ?_; intro v1 w9 hO hB hG hat; obtain ⟨A9, c9, rfl⟩ := Kd.R_slice hO; have HO9 := Aside0.mk hO; have HG9 := Aside0.mk hG; have HB9 := Aside0.mk (blk_grown HBc.out hG (fun e => by have := hbb.out _ e.symm; omega)); have m2 := cellAt HB9.out 2 rfl; have y2 := blk_frozen HB9.out 2; clear hO hB hG hat))
                        have HGF := Aside0.mk (grown_newer HGc.out HG9.out (fun k hk => by have := hbb.out k hk; omega))
                        have hsz := Aside0.mk (blk_lt HP.out.blk)
                        go_roundg m
                        case measure => omega
                        case rel =>
                          have GF2 := grown_setNew (p := ⟨w.heap.size + 1, 2, none⟩) HGF.out (Nat.le_succ _) (.slice A9 (acc ++ [y]).length c9)
                          have hl1 := hsz.out
                          have e1 : (acc ++ [y]).length = acc.length + 1 := by simp
                          rw [← e1]
                          refine ⟨s3, acc ++ [y], .slice A9 (acc ++ [y]).length c9, ⟨HP.out.step GF2 ?_, GF2, ?_, ?_, ?_⟩, HROW.out, ?_⟩
                          · exact blk_far (blk_grown HPc.out.blk HG9.out (fun e => by have := hbb.out _ e.symm; omega)) (p := ⟨w.heap.size + 1, 2, none⟩) (by show g ≠ w.heap.size + 1; omega) _
                          · exact blk_far (blk_grown HZc.out HG9.out (fun e => by have := hbb.out _ e.symm; omega)) (p := ⟨w.heap.size + 1, 2, none⟩) (by show w.heap.size ≠ w.heap.size + 1; omega) _
                          · have := blk_set HB9.out 2 (.slice A9 (acc ++ [y]).length c9)
                            simpa using this
                          · exact Kd.R_mono (Kd.R_far (p := ⟨w.heap.size + 1, 2, none⟩) (Kd.R_bound HO9.out) (fun k hk e => by have := hk.2.1; dsimp only at e; omega) _) (fun _ _ => trivial)
                          · have := HAL.out
                            rw [e1]
                            omega
            · have e0 : q = (none, lookT t s1) := by
                have := HI.out
                unfold itemR at this
                rw [hst] at this
                exact (Option.some.inj this).symm
              subst e0
              have e1 := Option.some.inj (show some (acc, lookT t s1) = some r from HK.out)
              subst e1
              clear hst
              go_wp2
              go_meet
              case rel => exact ⟨_, RE3.out⟩
  case rest =>
    obtain ⟨v, hp, hg, hz, hb, hv⟩ := hcut
    obtain ⟨l, s'⟩ := r
    simp only at hp hv
    obtain ⟨A1, c1, rfl⟩ := Kd.R_slice hv
    have HPc := Aside0.mk hp
    have HGc := Aside0.mk hg
    have HZc := Aside0.mk hz
    have HBc := Aside0.mk hb
    have HVc := Aside0.mk hv
    have q0 := cellAt hz 0 rfl
    have q1 := cellAt hz 1 rfl
    have q2 := cellAt hz 2 rfl
    have y0 := blk_frozen hz 0
    have y1 := blk_frozen hz 1
    have y2 := blk_frozen hz 2
    have p0 := cellAt hb 0 rfl
    have p1 := cellAt hb 1 rfl
    have p2 := cellAt hb 2 rfl
    clear hp hg hz hb hv
    by_cases hacc : l.length = 1
    · obtain ⟨x, rfl⟩ := List.length_eq_one_iff.1 hacc
      obtain ⟨q, cap, A2, c2, hv, hx0, hx1, hx2, hR, hb, hl⟩ := row_one HVc.out
      cases hv
      have HRX := Aside0.mk hR
      clear hR hacc
      go_wp2
      have HGF := grown_set3 HGc.out (Nat.le_refl w.heap.size) (.int .i64 x.f0) (.string x.f1) (.slice A2 x.f2.length c2)
      refine bodyPost_ret (results_cell_row (ty := 78) (p := 2) rfl _ _ w.heap.size 78 #[.int .i64 x.f0, .string x.f1, .slice A2 x.f2.length c2] (0, 0) _ rfl ?_ Try.underlying78 rfl infoNode) rfl ⟨HGF, HP.out.step HGF ?_, _, rfl, ?_⟩
      · exact node_store HZc.out _ _ _
      · exact blk_far3 HPc.out.blk hne _ _ _
      · exact Kd.R_mono (Kd.R_lower (R_far3 (Kd.R_bound HRX.out) (fun k hk e => by have := hk.2.1; omega) _ _ _) (by omega)) (fun _ _ => trivial)
    · have b1 : ((l.length : Int) == 1) = false := beq_eq_false_iff_ne.mpr (by omega)
      have HN1 := Aside0.mk hacc
      clear hacc
      go_wp2
      have HGF := grown_set3 HGc.out (Nat.le_refl w.heap.size) (.int .i64 3) (.string ⟨#[]⟩) (.slice A1 l.length c1)
      rw [oneR_many HN1.out]
      refine bodyPost_ret (results_cell_row (ty := 78) (p := 2) rfl _ _ w.heap.size 78 #[.int .i64 3, .string ⟨#[]⟩, .slice A1 l.length c1] (0, 0) _ rfl ?_ Try.underlying78 rfl infoNode) rfl ⟨HGF, HP.out.step HGF ?_, _, rfl, ?_⟩
      · exact node_store HZc.out _ _ _
      · exact blk_far3 HPc.out.blk hne _ _ _
      · exact Kd.R_mono (Kd.R_lower (R_far3 (Kd.R_bound HVc.out) (fun k hk e => by have := hk.2.1; omega) _ _ _) (by omega)) (fun _ _ => trivial)
end
end Go.Proofs.Ytgllncnfhiiobaa.Rw
