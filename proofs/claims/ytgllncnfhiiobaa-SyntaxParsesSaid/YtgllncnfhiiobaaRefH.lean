/- The reference's parser: Parse, behind the scan. -/
import Derived.Test.YtgllncnfhiiobaaRefF
import Derived.Test.YtgllncnfhiiobaaPx12
import Derived.Deep.DeepCutAuto
import Derived.Deep.RegionHeld3
import Derived.Deep.AppendLies
import Derived.Deep.CutBlock
set_option linter.unusedVariables false
set_option linter.unusedSimpArgs false
namespace Go.Proofs.Ytgllncnfhiiobaa.Rw
open Go.RowKit Go.Proofs.YtgllncnfhiiobaaW.PrintWords Go.Proofs.YtgllncnfhiiobaaW.PrintLast Go.Proofs.YtgllncnfhiiobaaW.PrintMore Go.Proofs.Ytgllncnfhiiobaa Go.Proofs.Ytgllncnfhiiobaa.P Go.Proofs.Ytgllncnfhiiobaa.Lw Go.Proofs.Ytgllncnfhiiobaa.Sw

section
variable {w : World} {ts : List S102}
set_option maxHeartbeats 8000000 in
set_option maxRecDepth 100000 in
theorem parse_rules {a0 : ByteArray} {k : Nat} (hs : primerref04_Scan.f k a0 = some (ts, 0, 0, 0)) {m n : Nat} (hm : m ≤ 999999) (hn : n ≤ 1000000) {r : ByteArray × List S80 × RS} (hr : parseG ts m n = some r) :
    Calls Try.prog 9 #[.string a0] w (ParseRPost w (resG r)) := by
  have HS := Aside0.mk hs
  have HMM := Aside0.mk hm
  have HN := Aside0.mk hn
  have ZA := Aside0.mk (blk_alloc (blk_new w zG) zF)
  have ZB : Aside0 (((w.alloc zG).alloc zF).heap[w.heap.size + 1]? = some zF) := ⟨by have := blk_new (w.alloc zG) zF; rwa [World.size_alloc] at this⟩
  have BL := Aside0.mk (below_alloc (below_alloc (Below.refl w.heap.size w) zG) zF)
  obtain ⟨qs, hqs, hr⟩ := Option.bind_eq_some_iff.1 hr
  obtain ⟨rr, hrr, rfl⟩ := Option.map_eq_some_iff.1 hr
  have HQ := Aside0.mk hqs
  have HRR := Aside0.mk hrr
  have hqt := hqs
  unfold startR at hqt
  split at hqt
  · cases hqt
  rename_i t0 ht0
  have HT0 := Aside0.mk ht0
  have HQT := Aside0.mk hqt
  clear hs hm hn hr hqs hrr ht0 hqt
  go_enter Try.func9, Try.ntmps9
  go_wp2_with (fail)
  refine (primerref04_Scan.calls k a0 ts 0 0 0 _ HS.out).mono ?_
  rintro e w3 ⟨v0, rfl, hv, hb⟩
  obtain ⟨A, c, rfl⟩ := Kd.R_slice hv
  have N3 := Aside0.mk (show w.heap.size + 1 < w3.heap.size from by have := blk_lt (blk_below ZB.out hb); omega)
  have KGE : Aside0 (GE w (((w3.alloc zF).alloc (.cells #[.slice A ts.length c, .int .i64 0, .int .i64 0, .int .i64 0, .int .i64 0, .int .i64 0] 69)).alloc zG) (w3.heap.size + 1) A c ts RS.zero ⟨#[]⟩ (.slice none 0 0)) :=
    ⟨⟨blk_alloc (by have := blk_new (w3.alloc zF) (.cells #[.slice A ts.length c, .int .i64 0, .int .i64 0, .int .i64 0, .int .i64 0, .int .i64 0] 69); rwa [World.size_alloc] at this) _,
      Kd.R_mono (Kd.R_alloc (Kd.R_alloc (Kd.R_alloc (Kd.R_lower (Kd.R_bound hv) (Nat.zero_le _)) _) _) _) (fun k hk => Nat.lt_succ_of_lt hk.2.2.1),
      below_alloc (below_alloc (below_alloc (below_step BL.out hb) _) _) _, blk_alloc (blk_alloc (blk_alloc (blk_below ZA.out hb) _) _) _, blk_alloc (blk_alloc (blk_alloc (blk_below ZB.out hb) _) _) _,
      by have := blk_new ((w3.alloc zF).alloc (.cells #[.slice A ts.length c, .int .i64 0, .int .i64 0, .int .i64 0, .int .i64 0, .int .i64 0] 69)) zG; rwa [World.size_alloc, World.size_alloc] at this, Nat.lt_succ_of_lt N3.out⟩⟩
  have bz : ((0 : Int) != 0) = false := rfl
  clear hb hv ZA ZB BL N3
  go_wp2_with (fail)
  generalize (((w3.alloc zF).alloc (.cells #[.slice A ts.length c, .int .i64 0, .int .i64 0, .int .i64 0, .int .i64 0, .int .i64 0] 69)).alloc zG) = W6 at KGE ⊢
  generalize w3.heap.size + 1 = g at KGE ⊢
  refine (is_calls KGE.out.re HT0.out ⟨#[37]⟩).mono ?_
  rintro e w4 ⟨rfl, hg4, hp4⟩
  have GE4 := Aside0.mk (KGE.out.on hg4 hp4)
  clear hg4 hp4
  go_upto_if 26 with (fail)
  go_cut [] (fun wx => GE w wx g A c ts qs.2 qs.1 (.slice none 0 0))
  case first =>
    cases hi : isT t0 RS.zero ⟨#[37]⟩
    · have e0 : qs = (⟨#[]⟩, lookT t0 RS.zero) := by
        have := HQT.out
        rw [hi] at this
        exact (Option.some.inj this).symm
      clear hi
      subst e0
      go_wp2
      go_meet
      case rel => exact GE4.out
    · have hq := HQT.out
      rw [hi, if_pos rfl] at hq
      split at hq
      · cases hq
      rename_i t1 ht1
      split at hq
      · cases hq
      rename_i t2 ht2
      have e0 := Option.some.inj hq
      subst e0
      have HM4 := Aside0.mk (GE4.out.small (t := t0) (by rw [lookT_at]; exact HT0.out))
      have HT1 := Aside0.mk ht1
      have HT2 := Aside0.mk ht2
      have h1 := cellAt GE4.out.blk 1 rfl
      have z1 := blk_frozen GE4.out.blk 1
      clear hi hq ht1 ht2
      go_wp2_with (fail)
      refine (name_calls (GE4.out.next HM4.out).re HT1.out).mono ?_
      rintro e w5 ⟨rfl, hg5, hp5⟩
      have GE5 := Aside0.mk ((GE4.out.next HM4.out).on hg5 hp5)
      have q0 := cellAt GE5.out.gr 0 rfl
      have y0 := blk_frozen GE5.out.gr 0
      clear hg5 hp5 h1 z1
      go_wp2_with (fail)
      refine (need_calls (GE5.out.setStart _).re HT2.out ⟨#[59]⟩).mono ?_
      rintro e w6 ⟨rfl, hg6, hp6⟩
      have GE6 := Aside0.mk ((GE5.out.setStart _).on hg6 hp6)
      clear hg6 hp6 q0 y0
      go_wp2
      go_meet
      case rel => exact GE6.out
  case rest =>
    have LGE := Aside0.mk hcut
    clear hcut
    go_upto_block 0 with (fail)
    go_cut [] (fun wx => ∃ v, GE w wx g A c ts rr.2 qs.1 v ∧ k80.R 80 wx (g + 2) (fun _ => True) v rr.1)
    case first =>
      go_wp2_with (fail)
      go_loopg [] n (fun k wr => RulesRR w g A c ts m n qs.1 rr k wr)
      case atStart => exact ⟨qs.2, [], _, LGE.out, Kd.R_nil _ _ _ _ _, HRR.out, by simp⟩
      case round =>
        obtain ⟨s1, acc, v, hge, hv, hrow, hal⟩ := hrel
        cases gk with
        | zero => exact absurd hrow (by simp [rulesR])
        | succ n' =>
          have KG := Aside0.mk hge
          have KV := Aside0.mk hv
          have HAL := Aside0.mk hal
          obtain ⟨A5, c5, rfl⟩ := Kd.R_slice hv
          have h4 := cellAt hge.blk 4 rfl
          unfold rulesR at hrow
          clear hge hv hal
          by_cases he : s1.e = 0
          · have b0 : (s1.e == 0) = true := beq_iff_eq.mpr he
            rw [if_pos he] at hrow
            split at hrow
            · cases hrow
            rename_i t ht
            have HT := Aside0.mk ht
            have HROW := Aside0.mk hrow
            clear he hrow ht
            go_wp2_with (fail)
            refine (look_calls KG.out.re HT.out).mono ?_
            rintro e w5 ⟨rfl, hg5, hp5⟩
            have GE5 := Aside0.mk (KG.out.on hg5 hp5)
            have V5 := Aside0.mk (Kd.R_mono (Kd.R_grown (Kd.R_bound KV.out) hg5 (fun k hk e => by have e := Option.some.inj e; have := hk.2.1; omega)) (fun _ _ => trivial : ∀ k, _ → True))
            have hr1 := cellAt GE5.out.gr 1 rfl
            have LV := Aside0.mk (fun k hk => ⟨Kd.R_base KV.out k hk, Kd.R_lt KV.out k hk⟩ : ∀ k, (Value.slice A5 acc.length c5).ownBlock = some k → g + 2 ≤ k ∧ k < wr.heap.size)
            have SZ5 := Aside0.mk hg5.size
            clear hg5 hp5 h4
            go_upto_region 12 with (fail)
            go_cut [57] (fun s57 wx => s57 = .bool (endG t acc.length) ∧ wx = w5)
            case first =>
              cases b4 : (t.f0 == 4)
              · have e0 : endG t acc.length = false := by unfold endG; rw [b4]; rfl
                go_wp2
                go_meet
                case rel => exact ⟨by rw [e0], rfl⟩
              · cases b1 : decide (0 < (acc.length : Int))
                · have e0 : endG t acc.length = false := by unfold endG; rw [b4, b1]; rfl
                  have HB1 := Aside0.mk (of_decide_eq_false b1)
                  go_wp2
                  go_meet
                  case rel => exact ⟨by rw [e0, decide_eq_false (show ¬ 0 < acc.length by have := HB1.out; omega)], rfl⟩
                · have e0 : endG t acc.length = true := by unfold endG; rw [b4, b1]; rfl
                  have HB1 := Aside0.mk (of_decide_eq_true b1)
                  go_wp2
                  go_meet
                  case rel => exact ⟨by rw [e0, decide_eq_true (show 0 < acc.length by have := HB1.out; omega)], rfl⟩
            case rest =>
              obtain ⟨rfl, hw⟩ := hcut
              replace hw := hw.symm
              subst hw
              cases hst : endG t acc.length
              · have hrow := HROW.out
                rw [if_neg (fun hh => by rw [endG_iff.2 hh] at hst; cases hst)] at hrow
                obtain ⟨S2, hS2⟩ : ∃ S2, S2 = (if t.f0 = 1 ∧ acc.length = 64 then badT t (lookT t s1) 6 else lookT t s1) := ⟨_, rfl⟩
                rw [← hS2] at hrow
                obtain ⟨p, hp, hk⟩ := Option.bind_eq_some_iff.1 hrow
                obtain ⟨sA, b, sB, rfl, hA, hB, hC⟩ := ruleR_split hp
                have HKK := Aside0.mk hk
                have HA := Aside0.mk hA
                have HB := Aside0.mk hB
                have HC := Aside0.mk hC
                have HS2 := Aside0.mk hS2
                clear hst hrow hp hk hA hB hC hS2 HROW
                go_upto_region 13 with (fail)
                go_cut [65] (fun s65 wx => s65 = .bool (fullG t acc.length) ∧ wx = w5)
                case first =>
                  cases b4 : (t.f0 == 1)
                  · have e0 : fullG t acc.length = false := by unfold fullG; rw [b4]; rfl
                    go_wp2
                    go_meet
                    case rel => exact ⟨by rw [e0], rfl⟩
                  · cases b1 : ((acc.length : Int) == 64)
                    · have e0 : fullG t acc.length = false := by unfold fullG; rw [b4, b1]; rfl
                      go_wp2
                      go_meet
                      case rel => exact ⟨by rw [e0], rfl⟩
                    · have e0 : fullG t acc.length = true := by unfold fullG; rw [b4, b1]; rfl
                      go_wp2
                      go_meet
                      case rel => exact ⟨by rw [e0], rfl⟩
                case rest =>
                  obtain ⟨rfl, hw⟩ := hcut
                  replace hw := hw.symm
                  subst hw
                  clear hr1
                  go_upto_if 65 with (fail)
                  go_cut [] (fun wx => GE w wx g A c ts S2 qs.1 (.slice A5 acc.length c5) ∧ w5.grownBy wx (some g))
                  case first =>
                    cases hfu : fullG t acc.length
                    · have e0 : S2 = lookT t s1 := by rw [HS2.out, if_neg (fun hh => by rw [fullG_iff.2 hh] at hfu; cases hfu)]
                      clear hfu
                      go_wp2
                      go_meet
                      case rel => exact ⟨by rw [e0]; exact GE5.out, grown_refl _ _⟩
                    · have e0 : S2 = badT t (lookT t s1) 6 := by rw [HS2.out, if_pos (fullG_iff.1 hfu)]
                      clear hfu
                      go_wp2_with (fail)
                      refine (bad_calls GE5.out.re (by rw [lookT_at]; exact HT.out) 6).mono ?_
                      rintro e w6 ⟨rfl, hg6, hp6⟩
                      have GE6 := Aside0.mk (GE5.out.on hg6 hp6)
                      have G6 := Aside0.mk hg6
                      clear hg6 hp6
                      go_wp2
                      go_meet
                      case rel => exact ⟨by rw [e0]; exact GE6.out, G6.out⟩
                  case rest =>
                    obtain ⟨hge6, hg6⟩ := hcut
                    have GE6 := Aside0.mk hge6
                    have V6 := Aside0.mk (Kd.R_mono (Kd.R_grown (Kd.R_bound V5.out) hg6 (fun k hk e => by have e := Option.some.inj e; have := hk.2.1; omega)) (fun _ _ => trivial : ∀ k, _ → True))
                    have SZ6 := Aside0.mk hg6.size
                    have HT6 : Aside0 (ts[S2.at_]? = some t) := ⟨by
                      rw [HS2.out]
                      split
                      · rw [badT_at, lookT_at]; exact HT.out
                      · rw [lookT_at]; exact HT.out⟩
                    clear hge6 hg6
                    go_wp2_with (fail)
                    refine (name_calls GE6.out.re HT6.out).mono ?_
                    rintro e w7 ⟨rfl, hg7, hp7⟩
                    have hge7 := GE6.out.on hg7 hp7
                    have R7 : Aside0 (RuleRR w g A c ts qs.1 acc (.slice A5 acc.length c5) w7.heap.size (nameT t S2).1 ⟨0, ⟨#[]⟩, []⟩ (nameT t S2).2 (w7.alloc (ruleBox (nameT t S2).1 0 ⟨#[]⟩ (.slice none 0 0)))) :=
                      ⟨⟨hge7.on (grown_alloc (grown_refl _ _) _) (hp7.grown (grown_alloc (grown_refl _ _) _)), Kd.R_alloc (Kd.R_mono (Kd.R_bound (Kd.R_grown (Kd.R_bound V6.out) hg7 (fun k hk e => by have e := Option.some.inj e; have := hk.2.1; omega))) (fun k hk => Nat.ne_of_lt hk.2.2.1)) _, _, blk_new _ _, Kd.R_nil _ _ _ _ _⟩⟩
                    have hb7 : Aside0 (g + 1 < w7.heap.size) := ⟨blk_lt hge7.gr⟩
                    have LV7 := Aside0.mk (fun k hk => by have := LV.out k hk; have := SZ5.out; have := SZ6.out; have := hg7.size; omega : ∀ k, (Value.slice A5 acc.length c5).ownBlock = some k → g + 2 ≤ k ∧ k < w7.heap.size)
                    have h4 := cellAt R7.out.1.blk 4 rfl
                    clear hge7 hg7 hp7
                    go_upto_if 76 with (fail)
                    go_cut [] (fun wx => RuleRR w g A c ts qs.1 acc (.slice A5 acc.length c5) w7.heap.size (nameT t S2).1 ⟨0, ⟨#[]⟩, []⟩ sA wx)
                    case first =>
                      by_cases he : (nameT t S2).2.e = 0
                      · have b0 : ((nameT t S2).2.e == 0) = true := beq_iff_eq.mpr he
                        obtain ⟨t2, ht2, e2⟩ := needK_yes HA.out he
                        have HT2 := Aside0.mk ht2
                        clear he ht2
                        go_wp2_with (fail)
                        refine (need_calls R7.out.1.re HT2.out ⟨#[58]⟩).mono ?_
                        rintro e w8 ⟨rfl, hg8, hp8⟩
                        have R8 := Aside0.mk (R7.out.on hb7.out hg8 hp8)
                        clear hg8 hp8
                        go_wp2
                        go_meet
                        case rel => rw [e2]; exact R8.out
                      · have b0 : ((nameT t S2).2.e == 0) = false := beq_eq_false_iff_ne.mpr he
                        have e2 := needK_no HA.out he
                        clear he
                        go_wp2
                        go_meet
                        case rel => rw [e2]; exact R7.out
                    case rest =>
                      have R8 := Aside0.mk hcut
                      clear hcut h4
                      have h4 := cellAt R8.out.1.blk 4 rfl
                      go_upto_if 84 with (fail)
                      go_cut [] (fun wx => RuleRR w g A c ts qs.1 acc (.slice A5 acc.length c5) w7.heap.size (nameT t S2).1 b.1 b.2 wx)
                      case first =>
                        by_cases he : sA.e = 0
                        · have b0 : (sA.e == 0) = true := beq_iff_eq.mpr he
                          have HAL2 : Aside0 (altR ts m sA = some b) := ⟨by have := HB.out; unfold bodyK at this; rwa [if_pos he] at this⟩
                          clear he
                          go_wp2_with (fail)
                          refine (alt_calls m HMM.out _ _ _ R8.out.1.re HAL2.out).mono ?_
                          rintro e w9 ⟨hg9, hp9, v9, rfl, hv9⟩
                          obtain ⟨A9, c9, rfl⟩ := Kd.R_slice hv9
                          obtain ⟨hge9, hva9, vb, hbx, _⟩ := R8.out.on hb7.out hg9 hp9
                          have HG9 := Aside0.mk hge9
                          have HVA9 := Aside0.mk hva9
                          have HBX9 := Aside0.mk hbx
                          have LB9 := Aside0.mk (show w7.heap.size < wc.heap.size from by obtain ⟨_, _, _, hbx, _⟩ := R8.out; exact blk_lt hbx)
                          have HV9 := Aside0.mk (Kd.R_lower (Kd.R_mono (Kd.R_bound hv9) (fun k hk => hk.2.1 : ∀ k, _ → wc.heap.size ≤ k)) (show w7.heap.size + 1 ≤ wc.heap.size from LB9.out))
                          have x1 := cellAt hbx 1 rfl
                          have x2 := cellAt hbx 2 rfl
                          have x3 := cellAt hbx 3 rfl
                          have y1 := blk_frozen hbx 1
                          have y2 := blk_frozen hbx 2
                          have y3 := blk_frozen hbx 3
                          clear hg9 hp9 hv9 hge9 hva9 hbx
                          go_wp2
                          go_meet
                          case rel =>
                            refine ⟨((HG9.out.far ⟨w7.heap.size, 1, none⟩ hb7.out _).far ⟨w7.heap.size, 2, none⟩ hb7.out _).far ⟨w7.heap.size, 3, none⟩ hb7.out _, R_far4 HVA9.out (fun k hk => hk) _ _ _, _, rule_store HBX9.out _ _ _, Kd.R_mono (R_far4 HV9.out (fun k hk => by have := LB9.out; omega) _ _ _) (fun _ _ => trivial)⟩
                        · have b0 : (sA.e == 0) = false := beq_eq_false_iff_ne.mpr he
                          have e2 : b = (⟨0, ⟨#[]⟩, []⟩, sA) := by have := HB.out; unfold bodyK at this; rw [if_neg he] at this; exact (Option.some.inj this).symm
                          clear he
                          go_wp2
                          go_meet
                          case rel => rw [e2]; exact R8.out
                      case rest =>
                        have R10 := Aside0.mk hcut
                        clear hcut h4
                        have h4 := cellAt R10.out.1.blk 4 rfl
                        go_upto_if 93 with (fail)
                        go_cut [] (fun wx => RuleRR w g A c ts qs.1 acc (.slice A5 acc.length c5) w7.heap.size (nameT t S2).1 b.1 sB wx)
                        case first =>
                          by_cases he : b.2.e = 0
                          · have b0 : (b.2.e == 0) = true := beq_iff_eq.mpr he
                            obtain ⟨t2, ht2, e2⟩ := needK_yes HC.out he
                            have HT2 := Aside0.mk ht2
                            clear he ht2
                            go_wp2_with (fail)
                            refine (need_calls R10.out.1.re HT2.out ⟨#[59]⟩).mono ?_
                            rintro e w11 ⟨rfl, hg11, hp11⟩
                            have R11 := Aside0.mk (R10.out.on hb7.out hg11 hp11)
                            clear hg11 hp11
                            go_wp2
                            go_meet
                            case rel => rw [e2]; exact R11.out
                          · have b0 : (b.2.e == 0) = false := beq_eq_false_iff_ne.mpr he
                            have e2 := needK_no HC.out he
                            clear he
                            go_wp2
                            go_meet
                            case rel => rw [e2]; exact R10.out
                        case rest =>
                          obtain ⟨hge, hva, vb, hbx, hvb⟩ := hcut
                          obtain ⟨Ab, cb, rfl⟩ := Kd.R_slice hvb
                          have HGc := Aside0.mk hge
                          have HVc := Aside0.mk hva
                          have LBc := Aside0.mk (blk_lt hbx)
                          have HM_ := Aside0.mk (k80_mkM wc (g + 2) (fun k => w7.heap.size + 1 ≤ k) (⟨(nameT t S2).1, b.1⟩ : S80) (Kd.R_lower (Kd.R_mono (Kd.R_bound hvb) (fun k hk => hk.2.1)) (by have := hb7.out; omega)))
                          have HF_ : Aside0 (∀ k, w7.heap.size + 1 ≤ k → k ≠ w7.heap.size ∧ some k ≠ (Value.slice A5 acc.length c5).ownBlock) := ⟨fun k hk => ⟨by omega, fun e => by have := LV7.out k e.symm; omega⟩⟩
                          have HFR : Aside0 (∀ k, wc.heap.size ≤ k → k ≠ w7.heap.size) := ⟨fun k hk => by have := LBc.out; omega⟩
                          have HBS := Aside0.mk (show g + 2 ≤ wc.heap.size from by have := hb7.out; have := LBc.out; omega)
                          have HLEN := Aside0.mk (show acc.length + 1 ≤ 1000000 from by have := HAL.out; have := HN.out; omega)
                          have q1 := cellAt hge.gr 1 rfl
                          have xx0 := cellAt hbx 0 rfl
                          have xx1 := cellAt hbx 1 rfl
                          have xx2 := cellAt hbx 2 rfl
                          have xx3 := cellAt hbx 3 rfl
                          clear hge hva hbx hvb h4
                          go_wp2_with (first | ((with_reducible refine gate_builtin (b := .append) (xs := #[.tmp 97, .tmp 99]) rfl ?_); at_builtin; refine Kd.R_append k80 (w0 := wc) (g + 2) rfl (.tmp 97) (.tmp 99) 31 80 (.agg #[(.string ⟨#[]⟩), (.int .i64 0), (.string ⟨#[]⟩), (.slice none 0 0)]) 64 rfl Try.underlying31 infoRulesR rfl (by decide) (by decide) (.slice A5 acc.length c5) acc (⟨(nameT t S2).1, b.1⟩ : S80) [.string (nameT t S2).1, .int .i64 b.1.f0, .string b.1.f1, .slice Ab b.1.f2.length cb] (fun k => k ≠ w7.heap.size) (fun k => w7.heap.size + 1 ≤ k) rfl rfl HM_.out HF_.out HFR.out HVc.out (Below.refl _ _) HBS.out (by have := HLEN.out; omega) ?_; intro v1 w12 hO hB hG hat; obtain ⟨A12, c12, rfl⟩ := Kd.R_slice hO; have HO12 := Aside0.mk hO; have GE12 := Aside0.mk (HGc.out.grow hG (fun k hk => by have := LV7.out k hk; omega)); have z1 := cellAt GE12.out.gr 1 rfl; have zf1 := blk_frozen GE12.out.gr 1; clear hO hB hG hat))
                          have elen : (acc ++ [(⟨(nameT t S2).1, b.1⟩ : S80)]).length = acc.length + 1 := by simp
                          go_roundg n'
                          case measure => omega
                          case rel =>
                            rw [← elen]
                            refine ⟨sB, acc ++ [⟨(nameT t S2).1, b.1⟩], _, GE12.out.setRules _, ?_, HKK.out, ?_⟩
                            · exact Kd.R_mono (Kd.R_far (p := ⟨g + 1, 1, none⟩) (Kd.R_bound HO12.out) (fun k hk e => by have := hk.2.1; dsimp only at e; omega) _) (fun _ _ => trivial)
                            · have := HAL.out
                              rw [elen]
                              omega
              · have hrow := HROW.out
                rw [if_pos (endG_iff.1 hst)] at hrow
                have e1 := Option.some.inj hrow
                subst e1
                clear hst hrow HROW
                go_wp2
                go_meet
                case rel => exact ⟨_, GE5.out, V5.out⟩
          · have b0 : (s1.e == 0) = false := beq_eq_false_iff_ne.mpr he
            rw [if_neg he] at hrow
            cases hrow
            clear he
            go_wp2
            go_meet
            case rel => exact ⟨_, KG.out, KV.out⟩
    case rest =>
      -- <T
      obtain ⟨v, hge, hv⟩ := hcut
      obtain ⟨A5, c5, rfl⟩ := Kd.R_slice hv
      have KG := Aside0.mk hge
      have KV := Aside0.mk hv
      have h4 := cellAt hge.blk 4 rfl
      have hnn : w.heap.size + 1 ≠ w.heap.size := Nat.succ_ne_self _
      have LO := Aside0.mk hge.lo
      have n0 : g ≠ w.heap.size := by have := LO.out; omega
      have n1 : g + 1 ≠ w.heap.size := by have := LO.out; omega
      have n2 : w.heap.size ≠ g + 1 := by have := LO.out; omega
      have n3 : w.heap.size + 1 ≠ g + 1 := by have := LO.out; omega
      have g0 := cellAt hge.gr 0 rfl
      have g1 := cellAt hge.gr 1 rfl
      have fg0 := blk_frozen hge.gr 0
      have p0 := cellAt hge.z0 0 rfl
      have p1 := cellAt hge.z0 1 rfl
      have y0 := blk_frozen hge.z0 0
      have y1 := blk_frozen hge.z0 1
      have q0 := cellAt hge.z1 0 rfl
      have q1 := cellAt hge.z1 1 rfl
      have q2 := cellAt hge.z1 2 rfl
      have z0 := blk_frozen hge.z1 0
      have z1 := blk_frozen hge.z1 1
      have z2 := blk_frozen hge.z1 2
      clear hge hv
      by_cases he : rr.2.e = 0
      · have b0 : (rr.2.e != 0) = false := bne_eq_false_iff_eq.mpr he
        have eR : resG (qs.1, rr.1, rr.2) = (startOfR qs.1 rr.1, rr.1, 0, 0, 0) := if_pos he
        have hpos := rulesR_pos HRR.out he
        have HPOS := Aside0.mk hpos
        clear he hpos
        have HeR := Aside0.mk eR
        clear eR
        cases hst : qs.1.toList.isEmpty
        · have HE := Aside0.mk hst
          go_wp2
          rw [HeR.out]
          refine bodyPost_ret (results_cc (ty := 33) (ty' := 35) (p := 2) (p' := 3) rfl _ _ w.heap.size (w.heap.size + 1) 33 35 #[.string qs.1, .slice A5 rr.1.length c5] #[.int .i64 0, .int .i64 0, .int .i64 0] (0, 0) (0, 0) _ _ rfl ?_ Try.underlying33 rfl infoGramR rfl ?_ Try.underlying35 rfl infoFaultR) rfl ⟨.slice A5 rr.1.length c5, ?_, ?_, ?_⟩
          · exact blk_far3 (gram_store KG.out.z0 _ _) (Ne.symm hnn) _ _ _
          · exact node_store (blk_far (blk_far KG.out.z1 (p := ⟨w.heap.size, 0, none⟩) hnn _) (p := ⟨w.heap.size, 1, none⟩) hnn _) _ _ _
          · show Ending.returned _ = Ending.returned (.tuple #[.agg #[.string (startOfR qs.1 rr.1), _], _])
            rw [show startOfR qs.1 rr.1 = qs.1 from by unfold startOfR; rw [HE.out]; rfl]
          · have hl := LO.out
            exact Kd.R_mono (Kd.R_lower (R_far3 (Kd.R_far (p := ⟨w.heap.size, 1, none⟩) (Kd.R_far (p := ⟨w.heap.size, 0, none⟩) (Kd.R_bound KV.out) (fun k hk e => by have := hk.2.1; dsimp only at e; omega) _) (fun k hk e => by have := hk.2.1; dsimp only at e; omega) _) (fun k hk e => by have := hk.2.1; omega) _ _ _) (by omega)) (fun _ _ => trivial)
          · exact ((((KG.out.bel.setCell (p := ⟨w.heap.size, 0, none⟩) (Nat.le_refl _) _).setCell (p := ⟨w.heap.size, 1, none⟩) (Nat.le_refl _) _).setCell (p := ⟨w.heap.size + 1, 0, none⟩) (Nat.le_succ _) _).setCell (p := ⟨w.heap.size + 1, 1, none⟩) (Nat.le_succ _) _).setCell (p := ⟨w.heap.size + 1, 2, none⟩) (Nat.le_succ _) _
        · have HE := Aside0.mk hst
          obtain ⟨rl, rs⟩ := rr
          simp only at KV HPOS g1 KG HeR ⊢
          obtain ⟨x, l, rfl⟩ : ∃ x l, rl = x :: l := by
            cases rl with
            | nil => exact absurd HPOS.out (by simp)
            | cons x l => exact ⟨x, l, rfl⟩
          obtain ⟨qq, cap, hv5, hbq, hlq, _⟩ := Kd.R_form KV.out (by simp)
          cases hv5
          have hx0 := rules_firstR KV.out
          have KG2 := Aside0.mk (KG.out.setStart x.f0)
          clear hbq hlq
          go_wp2
          rw [HeR.out]
          refine bodyPost_ret (results_cc (ty := 33) (ty' := 35) (p := 2) (p' := 3) rfl _ _ w.heap.size (w.heap.size + 1) 33 35 #[.string x.f0, .slice (some ⟨qq, 0, none⟩) (x :: l).length c5] #[.int .i64 0, .int .i64 0, .int .i64 0] (0, 0) (0, 0) _ _ rfl ?_ Try.underlying33 rfl infoGramR rfl ?_ Try.underlying35 rfl infoFaultR) rfl ⟨.slice (some ⟨qq, 0, none⟩) (x :: l).length c5, ?_, ?_, ?_⟩
          · exact blk_far3 (gram_store KG2.out.z0 _ _) (Ne.symm hnn) _ _ _
          · exact node_store (blk_far (blk_far KG2.out.z1 (p := ⟨w.heap.size, 0, none⟩) hnn _) (p := ⟨w.heap.size, 1, none⟩) hnn _) _ _ _
          · show Ending.returned _ = Ending.returned (.tuple #[.agg #[.string (startOfR qs.1 (x :: l)), _], _])
            rw [show startOfR qs.1 (x :: l) = x.f0 from by unfold startOfR; rw [HE.out]; rfl]
          · have hl := LO.out
            exact Kd.R_mono (Kd.R_lower (R_far3 (Kd.R_far (p := ⟨w.heap.size, 1, none⟩) (Kd.R_far (p := ⟨w.heap.size, 0, none⟩) (Kd.R_far (p := ⟨g + 1, 0, none⟩) (Kd.R_bound KV.out) (fun k hk e => by have := hk.2.1; dsimp only at e; omega) (.string x.f0)) (fun k hk e => by have := hk.2.1; dsimp only at e; omega) _) (fun k hk e => by have := hk.2.1; dsimp only at e; omega) _) (fun k hk e => by have := hk.2.1; omega) _ _ _) (by omega)) (fun _ _ => trivial)
          · exact ((((KG2.out.bel.setCell (p := ⟨w.heap.size, 0, none⟩) (Nat.le_refl _) _).setCell (p := ⟨w.heap.size, 1, none⟩) (Nat.le_refl _) _).setCell (p := ⟨w.heap.size + 1, 0, none⟩) (Nat.le_succ _) _).setCell (p := ⟨w.heap.size + 1, 1, none⟩) (Nat.le_succ _) _).setCell (p := ⟨w.heap.size + 1, 2, none⟩) (Nat.le_succ _) _
      · have b0 : (rr.2.e != 0) = true := bne_iff_ne.mpr he
        have eR : resG (qs.1, rr.1, rr.2) = (⟨#[]⟩, [], rr.2.l, rr.2.c, rr.2.e) := if_neg he
        clear he
        have HeR := Aside0.mk eR
        clear eR
        have BX := Aside0.mk KG.out.blk
        have x0 := cellAt BX.out 2 rfl
        have x1 := cellAt BX.out 3 rfl
        have x2 := cellAt BX.out 4 rfl
        have ZB4 := Aside0.mk (blk_far (blk_far KG.out.z1 (p := ⟨w.heap.size, 0, none⟩) hnn (.string ⟨#[]⟩)) (p := ⟨w.heap.size, 1, none⟩) hnn (.slice none 0 0))
        have q0 := cellAt ZB4.out 0 rfl
        have q1 := cellAt ZB4.out 1 rfl
        have q2 := cellAt ZB4.out 2 rfl
        have z0 := blk_frozen ZB4.out 0
        have z1 := blk_frozen ZB4.out 1
        have z2 := blk_frozen ZB4.out 2
        go_wp2_with (fail)
        refine start_ (n := 7) (S := fun w' => w'.cell? ⟨g, 2, none⟩ = some (.int .i64 rr.2.l) ∧ w'.cell? ⟨g, 3, none⟩ = some (.int .i64 rr.2.c) ∧ w'.cell? ⟨g, 4, none⟩ = some (.int .i64 rr.2.e)) (ds := [6]) #[false, false, false, false, false, false, false] (by kernel_rfl) rfl rfl ⟨x0, x1, x2⟩ (fun hHeld => ?_)
        refine pure_ (i := 0) (N := some 108) (v := ?_) (a' := ?_) #[true, false, false, false, false, false, false] rfl rfl (by kernel_rfl) (fun _ _ _ h => h) (Or.inl ⟨by rfl, ?_⟩) ?_ ?_
        rotate_left
        · intro w'
          go_simp
          with_reducible rfl
        rotate_left
        · simp only [Act.put, List.setIfInBounds_toArray, List.set_cons_zero, List.set_cons_succ, i64_w, i32_w]
          rfl
        refine pure_ (i := 1) (N := some 109) (v := ?_) (a' := ?_) #[true, true, false, false, false, false, false] rfl rfl (by kernel_rfl) (fun _ _ _ h => h) (Or.inl ⟨by rfl, ?_⟩) ?_ ?_
        rotate_left
        · intro w'
          go_simp
          with_reducible rfl
        rotate_left
        · simp only [Act.put, List.setIfInBounds_toArray, List.set_cons_zero, List.set_cons_succ, i64_w, i32_w]
          rfl
        refine pure_ (i := 2) (N := some 110) (v := ?_) (a' := ?_) #[true, true, true, false, false, false, false] rfl rfl (by kernel_rfl) (fun _ _ _ h => h) (Or.inl ⟨by rfl, ?_⟩) ?_ ?_
        rotate_left
        · intro w'
          go_simp
          with_reducible rfl
        rotate_left
        · simp only [Act.put, List.setIfInBounds_toArray, List.set_cons_zero, List.set_cons_succ, i64_w, i32_w]
          rfl
        refine pure_ (i := 3) (N := some 111) (v := ?_) (a' := ?_) #[true, true, true, true, false, false, false] rfl rfl (by kernel_rfl) (fun _ _ _ h => h) (Or.inl ⟨by rfl, ?_⟩) ?_ ?_
        rotate_left
        · intro w'
          go_simp
          with_reducible rfl
        rotate_left
        · simp only [Act.put, List.setIfInBounds_toArray, List.set_cons_zero, List.set_cons_succ, i64_w, i32_w]
          rfl
        refine take_ (i := 4) (N := some 112) (v := ?_) (a' := ?_) #[true, true, true, true, true, false, false] rfl rfl (by kernel_rfl) (fun _ _ _ h => h) (Or.inl ⟨by rfl, ?_⟩) hHeld ?_ ?_
        rotate_left
        · rintro w' ⟨s0, s1, s2⟩
          go_simp
          with_reducible rfl
        rotate_left
        · simp only [Act.put, List.setIfInBounds_toArray, List.set_cons_zero, List.set_cons_succ, i64_w, i32_w]
          rfl
        refine one_ (i := 5) (N := none) #[true, true, true, true, true, true, false] rfl rfl (by kernel_rfl) (by decide) (fun K hK => ?_)
        refine skip_ (w1 := ?_) (by rfl) rfl ?_ ?_
        rotate_left
        · go_simp
          rfl
        refine hK.out _ _ ⟨cellAt (blk_far (blk_far BX.out (p := ⟨w.heap.size, 0, none⟩) n0 _) (p := ⟨w.heap.size, 1, none⟩) n0 _) 2 rfl, cellAt (blk_far (blk_far BX.out (p := ⟨w.heap.size, 0, none⟩) n0 _) (p := ⟨w.heap.size, 1, none⟩) n0 _) 3 rfl, cellAt (blk_far (blk_far BX.out (p := ⟨w.heap.size, 0, none⟩) n0 _) (p := ⟨w.heap.size, 1, none⟩) n0 _) 4 rfl⟩ (fun hHeld => ?_)
        clear hK K
        refine last_ (i := 6) (N := none) #[true, true, true, true, true, true, true] rfl rfl (by kernel_rfl) (by decide) (fun K hK => ?_)
        refine skip_ (w1 := ?_) (by rfl) rfl ?_ ?_
        rotate_left
        · go_simp
          rfl
        refine hK.out _ _ ?_
        clear hK K
        refine done_ (by kernel_rfl) ?_
        clear hHeld
        go_wp2
        rw [HeR.out]
        refine bodyPost_ret (results_cc (ty := 33) (ty' := 35) (p := 2) (p' := 3) rfl _ _ w.heap.size (w.heap.size + 1) 33 35 #[.string ⟨#[]⟩, .slice none 0 0] #[.int .i64 rr.2.l, .int .i64 rr.2.c, .int .i64 rr.2.e] (0, 0) (0, 0) _ _ rfl ?_ Try.underlying33 rfl infoGramR rfl ?_ Try.underlying35 rfl infoFaultR) rfl ⟨.slice none 0 0, rfl, Kd.R_nil _ _ _ _ _, ?_⟩
        · exact blk_far3 (gram_store KG.out.z0 _ _) (Ne.symm hnn) _ _ _
        · exact node_store ZB4.out _ _ _
        · exact (((((below_drew1 KG.out.bel).setCell (p := ⟨w.heap.size, 0, none⟩) (Nat.le_refl _) _).setCell (p := ⟨w.heap.size, 1, none⟩) (Nat.le_refl _) _).setCell (p := ⟨w.heap.size + 1, 0, none⟩) (Nat.le_succ _) _).setCell (p := ⟨w.heap.size + 1, 1, none⟩) (Nat.le_succ _) _).setCell (p := ⟨w.heap.size + 1, 2, none⟩) (Nat.le_succ _) _
      -- T>
end
end Go.Proofs.Ytgllncnfhiiobaa.Rw
