/- The walk of the law SyntaxJoins. -/
import Derived.Test.YtgllncnfhiiobaaSynJoin
import Derived.Test.YtgllncnfhiiobaaSynSp
set_option linter.unusedVariables false
set_option linter.unusedSimpArgs false
namespace Go.Proofs.Ytgllncnfhiiobaa.Sw
open Go.RowKit Go.Proofs.YtgllncnfhiiobaaW.PrintWords Go.Proofs.YtgllncnfhiiobaaW.PrintLast Go.Proofs.YtgllncnfhiiobaaW.PrintMore Go.Proofs.Ytgllncnfhiiobaa Go.Proofs.Ytgllncnfhiiobaa.P Go.Proofs.Ytgllncnfhiiobaa.Lw

theorem parse_fR {s : ByteArray} {r : PR S25} (h : parseR s = some r) : syntax_Parse.f s = some (parseT r) := by unfold syntax_Parse.f; rw [h]; rfl
theorem parse_codeR {s : ByteArray} {l k x : Int} (h : parseR s = some (.bad l k x)) : x ≠ 0 := by
  unfold parseR at h
  cases hs : Lx.scan s.data.toList with
  | error f => rw [hs] at h; cases h; exact scan_code hs
  | ok ts => rw [hs] at h; exact grammarP_code h
theorem parse_scanR {s : ByteArray} {g : S25} {j : Nat} (h : parseR s = some (.ok g j)) : ∃ ts, Lx.scan s.data.toList = .ok ts := by
  unfold parseR at h
  cases hs : Lx.scan s.data.toList with
  | error f => rw [hs] at h; cases h
  | ok ts => exact ⟨ts, rfl⟩
theorem rd_left {l1 l2 : List S51} {i : Nat} (h : i < l1.length) : rd_T51 (l1 ++ l2) i = rd_T51 l1 i := by
  unfold rd_T51
  simp [List.getD_eq_getElem?_getD, List.getElem?_append_left h]
theorem rd_right {l1 l2 : List S51} {i : Nat} (h : l1.length ≤ i) : rd_T51 (l1 ++ l2) i = rd_T51 l2 ((i : Int) - (l1.length : Int)) := by
  unfold rd_T51
  rw [show ((i : Int) - (l1.length : Int)).toNat = i - l1.length by omega]
  simp [List.getD_eq_getElem?_getD, List.getElem?_append_right h]
theorem below_drew_l {w w' : World} {B : Nat} (h : Below B w.drew w') : Below B w w' := ⟨h.os, h.tape, h.output, h.size, h.block⟩
theorem same_self (x : S49) : syntax_SameNode.f x.f0 x.f1 x.f2 x.f0 x.f1 x.f2 = some true := by cases x; exact congrArg some (sameN_refl _)
theorem scan_any (s : ByteArray) : ∃ l a b c, lex_Scan.f s = some (l, a, b, c) := by
  unfold lex_Scan.f
  cases Lx.scan s.data.toList with
  | error f => exact ⟨_, _, _, _, rfl⟩
  | ok ts => exact ⟨_, _, _, _, rfl⟩
theorem parse_count {s : ByteArray} {g : S25} {j : Nat} (h : parseR s = some (.ok g j)) : g.f1.length ≤ 64 := by
  obtain ⟨ts, hs⟩ := parse_scanR h
  unfold parseR at h
  rw [hs] at h
  rcases andThen_some (show grammarP _ _ = some _ from h) with ⟨_, _, _, _, hh⟩ | ⟨st, i, _, hk⟩
  · cases hh
  · obtain ⟨q, hq, hr⟩ := map_some hk
    cases q with
    | bad l c e => cases hr
    | ok l j0 => cases hr; exact rulesL_count hq (by simp)
section
variable {w : World} {a b : ByteArray}
set_option maxHeartbeats 4000000 in
set_option maxRecDepth 100000 in
theorem joins_big (h : 500 < (a.size : Int) ∨ 500 < (b.size : Int)) : Calls Try.prog 4 #[.string a, .string b] w fun e w' => e = .returned (.bool true) ∧ Below w.heap.size w w' := by
  by_cases ha : 500 < (a.size : Int)
  · clear h
    go_enter Try.func4, Try.ntmps4
    go_wp2_with (fail)
    refine (primerlaw05_speaks.calls true _ rfl).mono ?_
    rintro e w1 ⟨rfl, hb⟩
    have HB := Aside0.mk hb
    clear hb
    go_wp2_with (fail)
    go_ret
    exact ⟨rfl, HB.out⟩
  · have hb' : 500 < (b.size : Int) := by omega
    have ha' : (a.size : Int) ≤ 500 := by omega
    clear h ha
    go_enter Try.func4, Try.ntmps4
    go_wp2_with (fail)
    refine (primerlaw05_speaks.calls true _ rfl).mono ?_
    rintro e w1 ⟨rfl, hb⟩
    have HB := Aside0.mk hb
    clear hb
    go_wp2_with (fail)
    go_ret
    exact ⟨rfl, HB.out⟩
set_option maxHeartbeats 4000000 in
set_option maxRecDepth 100000 in
theorem joins_bad (ha : (a.size : Int) ≤ 500) (hb : (b.size : Int) ≤ 500) {s1 s2 : ByteArray} {l1 l2 : List S51} {x1 y1 z1 x2 y2 z2 : Int} (h1 : syntax_Parse.f a = some (s1, l1, x1, y1, z1)) (h2 : syntax_Parse.f b = some (s2, l2, x2, y2, z2)) (h : z1 ≠ 0 ∨ z2 ≠ 0) :
    Calls Try.prog 4 #[.string a, .string b] w fun e w' => e = .returned (.bool true) ∧ Below w.heap.size w w' := by
  obtain ⟨l, x, y, z, hl⟩ := scan_any b
  have HL := Aside0.mk hl
  have H1 := Aside0.mk h1
  have H2 := Aside0.mk h2
  have HH := Aside0.mk h
  clear hl h1 h2 h
  go_enter Try.func4, Try.ntmps4
  go_wp2_with (fail)
  refine (primerlaw05_speaks.calls true _ rfl).mono ?_
  rintro e w1 ⟨rfl, hb1⟩
  have HB1 := Aside0.mk hb1
  clear hb1
  go_wp2_with (fail)
  refine (syntax_Parse.calls _ _ _ _ _ _ _ H1.out).mono ?_
  rintro e w2 ⟨v2, rfl, hv2, hb2⟩
  obtain ⟨A2, c2, rfl⟩ := Kd.R_slice hv2
  have HB2 := Aside0.mk (below_step HB1.out hb2)
  have KC1 := Aside0.mk (Kd.R_reads' hv2).2
  clear hb2 hv2
  go_wp2_with (fail)
  refine (syntax_Parse.calls _ _ _ _ _ _ _ H2.out).mono ?_
  rintro e w3 ⟨v3, rfl, hv3, hb3⟩
  obtain ⟨A3, c3, rfl⟩ := Kd.R_slice hv3
  have HB3 := Aside0.mk (below_step (below_alloc (below_alloc HB2.out _) _) hb3)
  have BG1 := Aside0.mk (blk_below (blk_alloc (blk_new w2 (.cells #[.string s1, .slice A2 l1.length c2] 25)) (.cells #[.int .i64 x1, .int .i64 y1, .int .i64 z1] 28)) hb3)
  have BF1 : Aside0 (w3.heap[w2.heap.size + 1]? = some (.cells #[.int .i64 x1, .int .i64 y1, .int .i64 z1] 28)) := ⟨blk_below (by have := blk_new (w2.alloc (.cells #[.string s1, .slice A2 l1.length c2] 25)) (.cells #[.int .i64 x1, .int .i64 y1, .int .i64 z1] 28); rwa [World.size_alloc] at this) hb3⟩
  have KC2 := Aside0.mk (Kd.R_reads' hv3).2
  have KD1 := Aside0.mk (Kd.C_below (Kd.C_alloc (Kd.C_alloc KC1.out.2 (.cells #[.string s1, .slice A2 l1.length c2] 25)) (.cells #[.int .i64 x1, .int .i64 y1, .int .i64 z1] 28)) hb3)
  clear hb3 hv3
  go_wp2_with (fail)
  refine (lex_Scan.calls _ _ _ _ _ _ HL.out).mono ?_
  rintro e w4 ⟨v4, rfl, hv4, hb4⟩
  obtain ⟨A4, c4, rfl⟩ := Kd.R_slice hv4
  have HB4 := Aside0.mk (below_step (below_alloc (below_alloc HB3.out _) _) hb4)
  have BG1 := Aside0.mk (blk_below (blk_alloc (blk_alloc BG1.out (.cells #[.string s2, .slice A3 l2.length c3] 25)) (.cells #[.int .i64 x2, .int .i64 y2, .int .i64 z2] 28)) hb4)
  have BF1 := Aside0.mk (blk_below (blk_alloc (blk_alloc BF1.out (.cells #[.string s2, .slice A3 l2.length c3] 25)) (.cells #[.int .i64 x2, .int .i64 y2, .int .i64 z2] 28)) hb4)
  have BG2 := Aside0.mk (blk_below (blk_alloc (blk_new w3 (.cells #[.string s2, .slice A3 l2.length c3] 25)) (.cells #[.int .i64 x2, .int .i64 y2, .int .i64 z2] 28)) hb4)
  have BF2 : Aside0 (w4.heap[w3.heap.size + 1]? = some (.cells #[.int .i64 x2, .int .i64 y2, .int .i64 z2] 28)) := ⟨blk_below (by have := blk_new (w3.alloc (.cells #[.string s2, .slice A3 l2.length c3] 25)) (.cells #[.int .i64 x2, .int .i64 y2, .int .i64 z2] 28); rwa [World.size_alloc] at this) hb4⟩
  have KD1 := Aside0.mk (Kd.C_below (Kd.C_alloc (Kd.C_alloc KD1.out (.cells #[.string s2, .slice A3 l2.length c3] 25)) (.cells #[.int .i64 x2, .int .i64 y2, .int .i64 z2] 28)) hb4)
  have KD2 := Aside0.mk (Kd.C_below (Kd.C_alloc (Kd.C_alloc KC2.out.2 (.cells #[.string s2, .slice A3 l2.length c3] 25)) (.cells #[.int .i64 x2, .int .i64 y2, .int .i64 z2] 28)) hb4)
  have KS := Aside0.mk (Kd.R_reads' hv4).2.2
  have HB5 := Aside0.mk (below_alloc HB4.out (.cells #[.int .i64 x, .int .i64 y, .int .i64 z] 28))
  have BG1 := Aside0.mk (blk_alloc BG1.out (.cells #[.int .i64 x, .int .i64 y, .int .i64 z] 28))
  have BF1 := Aside0.mk (blk_alloc BF1.out (.cells #[.int .i64 x, .int .i64 y, .int .i64 z] 28))
  have BG2 := Aside0.mk (blk_alloc BG2.out (.cells #[.int .i64 x, .int .i64 y, .int .i64 z] 28))
  have BF2 := Aside0.mk (blk_alloc BF2.out (.cells #[.int .i64 x, .int .i64 y, .int .i64 z] 28))
  have KD1 := Aside0.mk (Kd.C_alloc KD1.out (.cells #[.int .i64 x, .int .i64 y, .int .i64 z] 28))
  have KD2 := Aside0.mk (Kd.C_alloc KD2.out (.cells #[.int .i64 x, .int .i64 y, .int .i64 z] 28))
  have KS := Aside0.mk (Kd.C_alloc KS.out (.cells #[.int .i64 x, .int .i64 y, .int .i64 z] 28))
  have m1 := cellAt BF1.out 2 rfl
  have m2 := cellAt BF2.out 2 rfl
  clear hb4 hv4
  by_cases hz : z1 = 0
  · have b1 : (z1 != 0) = false := bne_eq_false_iff_eq.mpr hz
    have b2 : (z2 != 0) = true := bne_iff_ne.mpr (HH.out.resolve_left (fun h => h hz))
    clear hz
    go_wp2_with (fail)
    go_ret
    exact ⟨rfl, HB5.out⟩
  · have b1 : (z1 != 0) = true := bne_iff_ne.mpr hz
    clear hz
    go_wp2_with (fail)
    go_ret
    exact ⟨rfl, HB5.out⟩
set_option maxHeartbeats 8000000 in
set_option maxRecDepth 100000 in
theorem joins_good (ha : (a.size : Int) ≤ 500) (hb : (b.size : Int) ≤ 500) {s1 s2 : ByteArray} {l1 l2 : List S51} (h1 : syntax_Parse.f a = some (s1, l1, 0, 0, 0)) (h2 : syntax_Parse.f b = some (s2, l2, 0, 0, 0)) {l : List S46} {x y z : Int} (hl : lex_Scan.f b = some (l, x, y, z)) (hpos : 0 < l.length) (hq1 : (l1.length : Int) ≤ 64) (hq2 : (l2.length : Int) ≤ 64)
    (h : l1.length + l2.length ≤ 64 → (rd_T46 l 0).f1.toList ≠ [37] → syntax_Parse.f ((a ++ ⟨#[10]⟩) ++ b) = some (s1, l1 ++ l2, 0, 0, 0)) :
    Calls Try.prog 4 #[.string a, .string b] w fun e w' => e = .returned (.bool true) ∧ Below w.heap.size w w' := by
  have HL := Aside0.mk hl
  have H1 := Aside0.mk h1
  have H2 := Aside0.mk h2
  have HH := Aside0.mk h
  have HPOS := Aside0.mk hpos
  have hpos' : 0 < (l.length : Int) := by omega
  clear hl h1 h2 h hpos
  go_enter Try.func4, Try.ntmps4
  go_wp2_with (fail)
  refine (primerlaw05_speaks.calls true _ rfl).mono ?_
  rintro e w1 ⟨rfl, hb1⟩
  have HB1 := Aside0.mk hb1
  clear hb1
  go_wp2_with (fail)
  refine (syntax_Parse.calls _ _ _ _ _ _ _ H1.out).mono ?_
  rintro e w2 ⟨v2, rfl, hv2, hb2⟩
  obtain ⟨A2, c2, rfl⟩ := Kd.R_slice hv2
  have HB2 := Aside0.mk (below_step HB1.out hb2)
  have KC1 := Aside0.mk (Kd.R_reads' hv2).2
  clear hb2 hv2
  go_wp2_with (fail)
  refine (syntax_Parse.calls _ _ _ _ _ _ _ H2.out).mono ?_
  rintro e w3 ⟨v3, rfl, hv3, hb3⟩
  obtain ⟨A3, c3, rfl⟩ := Kd.R_slice hv3
  have HB3 := Aside0.mk (below_step (below_alloc (below_alloc HB2.out _) _) hb3)
  have BG1 := Aside0.mk (blk_below (blk_alloc (blk_new w2 (.cells #[.string s1, .slice A2 l1.length c2] 25)) (.cells #[.int .i64 0, .int .i64 0, .int .i64 0] 28)) hb3)
  have BF1 : Aside0 (w3.heap[w2.heap.size + 1]? = some (.cells #[.int .i64 0, .int .i64 0, .int .i64 0] 28)) := ⟨blk_below (by have := blk_new (w2.alloc (.cells #[.string s1, .slice A2 l1.length c2] 25)) (.cells #[.int .i64 0, .int .i64 0, .int .i64 0] 28); rwa [World.size_alloc] at this) hb3⟩
  have KC2 := Aside0.mk (Kd.R_reads' hv3).2
  have KD1 := Aside0.mk (Kd.C_below (Kd.C_alloc (Kd.C_alloc KC1.out.2 (.cells #[.string s1, .slice A2 l1.length c2] 25)) (.cells #[.int .i64 0, .int .i64 0, .int .i64 0] 28)) hb3)
  clear hb3 hv3
  go_wp2_with (fail)
  refine (lex_Scan.calls _ _ _ _ _ _ HL.out).mono ?_
  rintro e w4 ⟨v4, rfl, hv4, hb4⟩
  obtain ⟨A4, c4, rfl⟩ := Kd.R_slice hv4
  have HB4 := Aside0.mk (below_step (below_alloc (below_alloc HB3.out _) _) hb4)
  have BG1 := Aside0.mk (blk_below (blk_alloc (blk_alloc BG1.out (.cells #[.string s2, .slice A3 l2.length c3] 25)) (.cells #[.int .i64 0, .int .i64 0, .int .i64 0] 28)) hb4)
  have BF1 := Aside0.mk (blk_below (blk_alloc (blk_alloc BF1.out (.cells #[.string s2, .slice A3 l2.length c3] 25)) (.cells #[.int .i64 0, .int .i64 0, .int .i64 0] 28)) hb4)
  have BG2 := Aside0.mk (blk_below (blk_alloc (blk_new w3 (.cells #[.string s2, .slice A3 l2.length c3] 25)) (.cells #[.int .i64 0, .int .i64 0, .int .i64 0] 28)) hb4)
  have BF2 : Aside0 (w4.heap[w3.heap.size + 1]? = some (.cells #[.int .i64 0, .int .i64 0, .int .i64 0] 28)) := ⟨blk_below (by have := blk_new (w3.alloc (.cells #[.string s2, .slice A3 l2.length c3] 25)) (.cells #[.int .i64 0, .int .i64 0, .int .i64 0] 28); rwa [World.size_alloc] at this) hb4⟩
  have KD1 := Aside0.mk (Kd.C_below (Kd.C_alloc (Kd.C_alloc KD1.out (.cells #[.string s2, .slice A3 l2.length c3] 25)) (.cells #[.int .i64 0, .int .i64 0, .int .i64 0] 28)) hb4)
  have KD2 := Aside0.mk (Kd.C_below (Kd.C_alloc (Kd.C_alloc KC2.out.2 (.cells #[.string s2, .slice A3 l2.length c3] 25)) (.cells #[.int .i64 0, .int .i64 0, .int .i64 0] 28)) hb4)
  have KS := Aside0.mk (Kd.R_reads' hv4).2.2
  have HB5 := Aside0.mk (below_alloc HB4.out (.cells #[.int .i64 x, .int .i64 y, .int .i64 z] 28))
  have BG1 := Aside0.mk (blk_alloc BG1.out (.cells #[.int .i64 x, .int .i64 y, .int .i64 z] 28))
  have BF1 := Aside0.mk (blk_alloc BF1.out (.cells #[.int .i64 x, .int .i64 y, .int .i64 z] 28))
  have BG2 := Aside0.mk (blk_alloc BG2.out (.cells #[.int .i64 x, .int .i64 y, .int .i64 z] 28))
  have BF2 := Aside0.mk (blk_alloc BF2.out (.cells #[.int .i64 x, .int .i64 y, .int .i64 z] 28))
  have KD1 := Aside0.mk (Kd.C_alloc KD1.out (.cells #[.int .i64 x, .int .i64 y, .int .i64 z] 28))
  have KD2 := Aside0.mk (Kd.C_alloc KD2.out (.cells #[.int .i64 x, .int .i64 y, .int .i64 z] 28))
  have KS := Aside0.mk (Kd.C_alloc KS.out (.cells #[.int .i64 x, .int .i64 y, .int .i64 z] 28))
  have m1 := cellAt BF1.out 2 rfl
  have m2 := cellAt BF2.out 2 rfl
  clear hb4 hv4
  have n1 := cellAt BG1.out 1 rfl
  have n2 := cellAt BG2.out 1 rfl
  by_cases hbig : l1.length + l2.length ≤ 64
  · have hbig' : (l1.length : Int) + (l2.length : Int) ≤ 64 := by omega
    have HBIG := Aside0.mk hbig
    obtain ⟨ad, rfl, k0, k1, k2, k3⟩ := at_T46 KS.out 0 (by omega) hpos'
    rw [show ad.add (Int.toNat 0 * 4) = ad from Addr.add_zero' ad] at k0 k1 k2 k3
    have HHH := HH.out hbig
    clear hbig k0 k2 k3
    by_cases ht : (rd_T46 l 0).f1.toList = [37]
    · have bt : ((rd_T46 l 0).f1.toList == [37]) = true := beq_iff_eq.mpr ht
      clear ht HHH
      go_wp2_with (fail)
      go_ret
      exact ⟨rfl, HB5.out⟩
    · have bt : ((rd_T46 l 0).f1.toList == [37]) = false := beq_eq_false_iff_ne.mpr ht
      have HJ := Aside0.mk (HHH ht)
      clear ht HHH
      go_wp2_with (fail)
      refine (syntax_Parse.calls _ _ _ _ _ _ _ HJ.out).mono ?_
      rintro e w5 ⟨v5, rfl, hv5, hb5⟩
      obtain ⟨A5, c5, rfl⟩ := Kd.R_slice hv5
      have HB6 := Aside0.mk (below_alloc (below_alloc (below_step HB5.out hb5) (.cells #[.string s1, .slice A5 (l1.length + l2.length) c5] 25)) (.cells #[.int .i64 0, .int .i64 0, .int .i64 0] 28))
      have BG1 := Aside0.mk (blk_alloc (blk_alloc (blk_below BG1.out hb5) (.cells #[.string s1, .slice A5 (l1.length + l2.length) c5] 25)) (.cells #[.int .i64 0, .int .i64 0, .int .i64 0] 28))
      have BG2 := Aside0.mk (blk_alloc (blk_alloc (blk_below BG2.out hb5) (.cells #[.string s1, .slice A5 (l1.length + l2.length) c5] 25)) (.cells #[.int .i64 0, .int .i64 0, .int .i64 0] 28))
      have BGA := Aside0.mk (blk_alloc (blk_new w5 (.cells #[.string s1, .slice A5 (l1.length + l2.length) c5] 25)) (.cells #[.int .i64 0, .int .i64 0, .int .i64 0] 28))
      have KD1 := Aside0.mk (Kd.C_alloc (Kd.C_alloc (Kd.C_below KD1.out hb5) (.cells #[.string s1, .slice A5 (l1.length + l2.length) c5] 25)) (.cells #[.int .i64 0, .int .i64 0, .int .i64 0] 28))
      have KD2 := Aside0.mk (Kd.C_alloc (Kd.C_alloc (Kd.C_below KD2.out hb5) (.cells #[.string s1, .slice A5 (l1.length + l2.length) c5] 25)) (.cells #[.int .i64 0, .int .i64 0, .int .i64 0] 28))
      have KDA := Aside0.mk (Kd.C_alloc (Kd.C_alloc (Kd.R_reads' hv5).2.2 (.cells #[.string s1, .slice A5 (l1.length + l2.length) c5] 25)) (.cells #[.int .i64 0, .int .i64 0, .int .i64 0] 28))
      have hlen : (l1 ++ l2).length = l1.length + l2.length := List.length_append
      have p10 := cellAt BG1.out 0 rfl
      have p11 := cellAt BG1.out 1 rfl
      have p21 := cellAt BG2.out 1 rfl
      have HLEN := Aside0.mk hlen
      clear hb5 hv5 hlen m1 m2 n1 n2 k1
      have pa0 := cellAt BGA.out 0 rfl
      have pa1 := cellAt BGA.out 1 rfl
      rw [HLEN.out]
      go_wp2_with (fail)
      generalize ((w5.alloc (.cells #[.string s1, .slice A5 (l1.length + l2.length) c5] 25)).alloc (.cells #[.int .i64 0, .int .i64 0, .int .i64 0] 28)) = W6 at HB6 BG1 BG2 BGA KD1 KD2 KDA p10 p11 p21 pa0 pa1 ⊢
      go_loopg [13] (l1.length + l2.length + 1) (fun k s13 wr => ∃ i : Nat, s13 = .int .i64 i ∧ i + k = l1.length + l2.length + 1 ∧ Below W6.heap.size W6 wr)
      case atStart => exact ⟨0, rfl, by omega, Below.refl _ _⟩
      case round =>
        obtain ⟨i, rfl, hi, hb⟩ := hrel
        have KB := Aside0.mk hb
        have q11 := cellAt (blk_below BG1.out hb) 1 rfl
        have q21 := cellAt (blk_below BG2.out hb) 1 rfl
        have qa1 := cellAt (blk_below BGA.out hb) 1 rfl
        have KD1r := Kd.C_below KD1.out hb
        have KD2r := Kd.C_below KD2.out hb
        have KDA2 := Kd.C_below KDA.out hb
        clear hb p10 p11 p21 pa0 pa1
        have hq : (l1.length : Int) + (l2.length : Int) ≤ 64 := by omega
        by_cases hlt : i < l1.length + l2.length
        · have hlt' : (i : Int) < (l1.length : Int) + (l2.length : Int) := by omega
          by_cases hlt1 : i < l1.length
          · have hlt1' : (i : Int) < (l1.length : Int) := by omega
            have EX : Aside0 (rd_T51 (l1 ++ l2) i = rd_T51 l1 i) := ⟨rd_left hlt1⟩
            obtain ⟨ed, Ae, ce, hA5, he0, he1, he2, he3, hel, heC⟩ := at_T51 KDA2 (i : Int) (by omega) (by rw [HLEN.out]; omega)
            obtain ⟨xd, Ax, cx, hAx, hx0, hx1, hx2, hx3, hxl, hxC⟩ := at_T51 KD1r (i : Int) (by omega) hlt1'
            rw [EX.out] at he0 he1 he2 he3 hel heC
            simp only [Int.toNat_natCast] at hx0 hx1 hx2 hx3
            simp only [Int.toNat_natCast] at he0 he1 he2 he3
            generalize rd_T51 l1 i = x at he0 he1 he2 he3 hel heC hx0 hx1 hx2 hx3 hxl hxC
            subst hA5
            subst hAx
            have HEL := Aside0.mk hel
            have HEC := Aside0.mk heC
            have HXL := Aside0.mk hxl
            have HXC := Aside0.mk hxC
            have XB := Aside0.mk (blk_new wr (.cells #[.string x.f0, .int .i64 x.f1.f0, .string x.f1.f1, .slice Ax x.f1.f2.length cx] 51))
            have kx0 : ∀ o, (wr.alloc o).cell? (xd.add (i * 4)) = some (.string x.f0) := fun o => cell_alc hx0 o
            have kx1 : ∀ o, (wr.alloc o).cell? ⟨(xd.add (i * 4)).block, (xd.add (i * 4)).off + 1, none⟩ = some (.int .i64 x.f1.f0) := fun o => cell_alc hx1 o
            have kx2 : ∀ o, (wr.alloc o).cell? ⟨(xd.add (i * 4)).block, (xd.add (i * 4)).off + 2, none⟩ = some (.string x.f1.f1) := fun o => cell_alc hx2 o
            have kx3 : ∀ o, (wr.alloc o).cell? ⟨(xd.add (i * 4)).block, (xd.add (i * 4)).off + 3, none⟩ = some (.slice Ax x.f1.f2.length cx) := fun o => cell_alc hx3 o
            have ke0 := Aside0.mk (cell_alc he0 (.cells #[.string x.f0, .int .i64 x.f1.f0, .string x.f1.f1, .slice Ax x.f1.f2.length cx] 51))
            have ke1 := Aside0.mk (cell_alc he1 (.cells #[.string x.f0, .int .i64 x.f1.f0, .string x.f1.f1, .slice Ax x.f1.f2.length cx] 51))
            have ke2 := Aside0.mk (cell_alc he2 (.cells #[.string x.f0, .int .i64 x.f1.f0, .string x.f1.f1, .slice Ax x.f1.f2.length cx] 51))
            have ke3 := Aside0.mk (cell_alc he3 (.cells #[.string x.f0, .int .i64 x.f1.f0, .string x.f1.f1, .slice Ax x.f1.f2.length cx] 51))
            have kp11 : ∀ o, (wr.alloc o).cell? ⟨w2.heap.size, 1, none⟩ = some (.slice (some xd) l1.length c2) := fun o => cell_alc q11 o
            have kp21 : ∀ o, (wr.alloc o).cell? ⟨w3.heap.size, 1, none⟩ = some (.slice A3 l2.length c3) := fun o => cell_alc q21 o
            have kpa1 := Aside0.mk (cell_alc qa1 (.cells #[.string x.f0, .int .i64 x.f1.f0, .string x.f1.f1, .slice Ax x.f1.f2.length cx] 51))
            clear hel heC hxl hxC hx0 hx1 hx2 hx3 he0 he1 he2 he3 KDA2
            go_upto_region 20 with (fail)
            go_cut [143] (fun s143 wx => s143 = .bool false ∧ Below wr.heap.size wr wx)
            case first =>
              refine start_ (n := 21) (S := fun w' => w'.cell? ⟨w5.heap.size, 1, none⟩ = some (.slice (some ed) (l1.length + l2.length) c5) ∧ w'.cell? ⟨wr.heap.size, 0, none⟩ = some (.string x.f0) ∧ w'.cell? ⟨wr.heap.size, 1, none⟩ = some (.int .i64 x.f1.f0) ∧ w'.cell? ⟨wr.heap.size, 2, none⟩ = some (.string x.f1.f1) ∧ w'.cell? ⟨wr.heap.size, 3, none⟩ = some (.slice Ax x.f1.f2.length cx) ∧ w'.cell? (ed.add (i * 4)) = some (.string x.f0) ∧ w'.cell? ⟨(ed.add (i * 4)).block, (ed.add (i * 4)).off + 1, none⟩ = some (.int .i64 x.f1.f0) ∧ w'.cell? ⟨(ed.add (i * 4)).block, (ed.add (i * 4)).off + 2, none⟩ = some (.string x.f1.f1) ∧ w'.cell? ⟨(ed.add (i * 4)).block, (ed.add (i * 4)).off + 3, none⟩ = some (.slice Ae x.f1.f2.length ce)) (ds := [18]) #[false, false, false, false, false, false, false, false, false, false, false, false, false, false, false, false, false, false, false, false, false] (by kernel_rfl) rfl rfl ⟨kpa1.out, cellAt XB.out 0 rfl, cellAt XB.out 1 rfl, cellAt XB.out 2 rfl, cellAt XB.out 3 rfl, ke0.out, ke1.out, ke2.out, ke3.out⟩ (fun hHeld => ?_)
              refine pure_ (i := 0) (N := some 123) (v := ?_) (a' := ?_) #[true, false, false, false, false, false, false, false, false, false, false, false, false, false, false, false, false, false, false, false, false] rfl rfl (by kernel_rfl) (fun _ _ _ h => h) (Or.inl ⟨by rfl, ?_⟩) ?_ ?_
              rotate_left
              · intro w'
                go_simp
                with_reducible rfl
              rotate_left
              · simp only [Act.put, List.setIfInBounds_toArray, List.set_cons_zero, List.set_cons_succ, i64_w, i32_w]
                rfl
              refine pure_ (i := 2) (N := some 125) (v := ?_) (a' := ?_) #[true, false, true, false, false, false, false, false, false, false, false, false, false, false, false, false, false, false, false, false, false] rfl rfl (by kernel_rfl) (fun _ _ _ h => h) (Or.inl ⟨by rfl, ?_⟩) ?_ ?_
              rotate_left
              · intro w'
                go_simp
                with_reducible rfl
              rotate_left
              · simp only [Act.put, List.setIfInBounds_toArray, List.set_cons_zero, List.set_cons_succ, i64_w, i32_w]
                rfl
              refine pure_ (i := 6) (N := some 129) (v := ?_) (a' := ?_) #[true, false, true, false, false, false, true, false, false, false, false, false, false, false, false, false, false, false, false, false, false] rfl rfl (by kernel_rfl) (fun _ _ _ h => h) (Or.inl ⟨by rfl, ?_⟩) ?_ ?_
              rotate_left
              · intro w'
                go_simp
                with_reducible rfl
              rotate_left
              · simp only [Act.put, List.setIfInBounds_toArray, List.set_cons_zero, List.set_cons_succ, i64_w, i32_w]
                rfl
              refine take_ (i := 1) (N := some 124) (v := ?_) (a' := ?_) #[true, true, true, false, false, false, true, false, false, false, false, false, false, false, false, false, false, false, false, false, false] rfl rfl (by kernel_rfl) (fun _ _ _ h => h) (Or.inl ⟨by rfl, ?_⟩) hHeld ?_ ?_
              rotate_left
              · rintro w' ⟨s0, s1, s2, s3, s4, s5, s6, s7, s8⟩
                go_simp
                with_reducible rfl
              rotate_left
              · simp only [Act.put, List.setIfInBounds_toArray, List.set_cons_zero, List.set_cons_succ, i64_w, i32_w]
                rfl
              refine pure_ (i := 3) (N := some 126) (v := ?_) (a' := ?_) #[true, true, true, true, false, false, true, false, false, false, false, false, false, false, false, false, false, false, false, false, false] rfl rfl (by kernel_rfl) (fun _ _ _ h => h) (Or.inl ⟨by rfl, ?_⟩) ?_ ?_
              rotate_left
              · intro w'
                go_simp
                with_reducible rfl
              rotate_left
              · simp only [Act.put, List.setIfInBounds_toArray, List.set_cons_zero, List.set_cons_succ, i64_w, i32_w]
                rfl
              refine pure_ (i := 4) (N := some 127) (v := ?_) (a' := ?_) #[true, true, true, true, true, false, true, false, false, false, false, false, false, false, false, false, false, false, false, false, false] rfl rfl (by kernel_rfl) (fun _ _ _ h => h) (Or.inl ⟨by rfl, ?_⟩) ?_ ?_
              rotate_left
              · intro w'
                go_simp
                with_reducible rfl
              rotate_left
              · simp only [Act.put, List.setIfInBounds_toArray, List.set_cons_zero, List.set_cons_succ, i64_w, i32_w]
                rfl
              refine take_ (i := 5) (N := some 128) (v := ?_) (a' := ?_) #[true, true, true, true, true, true, true, false, false, false, false, false, false, false, false, false, false, false, false, false, false] rfl rfl (by kernel_rfl) (fun _ _ _ h => h) (Or.inl ⟨by rfl, ?_⟩) hHeld ?_ ?_
              rotate_left
              · rintro w' ⟨s0, s1, s2, s3, s4, s5, s6, s7, s8⟩
                go_simp
                with_reducible rfl
              rotate_left
              · simp only [Act.put, List.setIfInBounds_toArray, List.set_cons_zero, List.set_cons_succ, i64_w, i32_w]
                rfl
              refine take_ (i := 7) (N := some 130) (v := ?_) (a' := ?_) #[true, true, true, true, true, true, true, true, false, false, false, false, false, false, false, false, false, false, false, false, false] rfl rfl (by kernel_rfl) (fun _ _ _ h => h) (Or.inl ⟨by rfl, ?_⟩) hHeld ?_ ?_
              rotate_left
              · rintro w' ⟨s0, s1, s2, s3, s4, s5, s6, s7, s8⟩
                go_simp
                with_reducible rfl
              rotate_left
              · simp only [Act.put, List.setIfInBounds_toArray, List.set_cons_zero, List.set_cons_succ, i64_w, i32_w]
                rfl
              refine pure_ (i := 8) (N := some 131) (v := ?_) (a' := ?_) #[true, true, true, true, true, true, true, true, true, false, false, false, false, false, false, false, false, false, false, false, false] rfl rfl (by kernel_rfl) (fun _ _ _ h => h) (Or.inl ⟨by rfl, ?_⟩) ?_ ?_
              rotate_left
              · intro w'
                go_simp
                with_reducible rfl
              rotate_left
              · simp only [Act.put, List.setIfInBounds_toArray, List.set_cons_zero, List.set_cons_succ, i64_w, i32_w]
                rfl
              refine pure_ (i := 9) (N := some 132) (v := ?_) (a' := ?_) #[true, true, true, true, true, true, true, true, true, true, false, false, false, false, false, false, false, false, false, false, false] rfl rfl (by kernel_rfl) (fun _ _ _ h => h) (Or.inl ⟨by rfl, ?_⟩) ?_ ?_
              rotate_left
              · intro w'
                go_simp
                with_reducible rfl
              rotate_left
              · simp only [Act.put, List.setIfInBounds_toArray, List.set_cons_zero, List.set_cons_succ, i64_w, i32_w]
                rfl
              refine pure_ (i := 10) (N := some 133) (v := ?_) (a' := ?_) #[true, true, true, true, true, true, true, true, true, true, true, false, false, false, false, false, false, false, false, false, false] rfl rfl (by kernel_rfl) (fun _ _ _ h => h) (Or.inl ⟨by rfl, ?_⟩) ?_ ?_
              rotate_left
              · intro w'
                go_simp
                with_reducible rfl
              rotate_left
              · simp only [Act.put, List.setIfInBounds_toArray, List.set_cons_zero, List.set_cons_succ, i64_w, i32_w]
                rfl
              refine pure_ (i := 12) (N := some 135) (v := ?_) (a' := ?_) #[true, true, true, true, true, true, true, true, true, true, true, false, true, false, false, false, false, false, false, false, false] rfl rfl (by kernel_rfl) (fun _ _ _ h => h) (Or.inl ⟨by rfl, ?_⟩) ?_ ?_
              rotate_left
              · intro w'
                go_simp
                with_reducible rfl
              rotate_left
              · simp only [Act.put, List.setIfInBounds_toArray, List.set_cons_zero, List.set_cons_succ, i64_w, i32_w]
                rfl
              refine pure_ (i := 16) (N := some 139) (v := ?_) (a' := ?_) #[true, true, true, true, true, true, true, true, true, true, true, false, true, false, false, false, true, false, false, false, false] rfl rfl (by kernel_rfl) (fun _ _ _ h => h) (Or.inl ⟨by rfl, ?_⟩) ?_ ?_
              rotate_left
              · intro w'
                go_simp
                with_reducible rfl
              rotate_left
              · simp only [Act.put, List.setIfInBounds_toArray, List.set_cons_zero, List.set_cons_succ, i64_w, i32_w]
                rfl
              refine take_ (i := 11) (N := some 134) (v := ?_) (a' := ?_) #[true, true, true, true, true, true, true, true, true, true, true, true, true, false, false, false, true, false, false, false, false] rfl rfl (by kernel_rfl) (fun _ _ _ h => h) (Or.inl ⟨by rfl, ?_⟩) hHeld ?_ ?_
              rotate_left
              · rintro w' ⟨s0, s1, s2, s3, s4, s5, s6, s7, s8⟩
                go_simp
                with_reducible rfl
              rotate_left
              · simp only [Act.put, List.setIfInBounds_toArray, List.set_cons_zero, List.set_cons_succ, i64_w, i32_w]
                rfl
              refine pure_ (i := 13) (N := some 136) (v := ?_) (a' := ?_) #[true, true, true, true, true, true, true, true, true, true, true, true, true, true, false, false, true, false, false, false, false] rfl rfl (by kernel_rfl) (fun _ _ _ h => h) (Or.inl ⟨by rfl, ?_⟩) ?_ ?_
              rotate_left
              · intro w'
                go_simp
                with_reducible rfl
              rotate_left
              · simp only [Act.put, List.setIfInBounds_toArray, List.set_cons_zero, List.set_cons_succ, i64_w, i32_w]
                rfl
              refine pure_ (i := 14) (N := some 137) (v := ?_) (a' := ?_) #[true, true, true, true, true, true, true, true, true, true, true, true, true, true, true, false, true, false, false, false, false] rfl rfl (by kernel_rfl) (fun _ _ _ h => h) (Or.inl ⟨by rfl, ?_⟩) ?_ ?_
              rotate_left
              · intro w'
                go_simp
                with_reducible rfl
              rotate_left
              · simp only [Act.put, List.setIfInBounds_toArray, List.set_cons_zero, List.set_cons_succ, i64_w, i32_w]
                rfl
              refine take_ (i := 15) (N := some 138) (v := ?_) (a' := ?_) #[true, true, true, true, true, true, true, true, true, true, true, true, true, true, true, true, true, false, false, false, false] rfl rfl (by kernel_rfl) (fun _ _ _ h => h) (Or.inl ⟨by rfl, ?_⟩) hHeld ?_ ?_
              rotate_left
              · rintro w' ⟨s0, s1, s2, s3, s4, s5, s6, s7, s8⟩
                go_simp
                with_reducible rfl
              rotate_left
              · simp only [Act.put, List.setIfInBounds_toArray, List.set_cons_zero, List.set_cons_succ, i64_w, i32_w]
                rfl
              refine take_ (i := 17) (N := some 140) (v := ?_) (a' := ?_) #[true, true, true, true, true, true, true, true, true, true, true, true, true, true, true, true, true, true, false, false, false] rfl rfl (by kernel_rfl) (fun _ _ _ h => h) (Or.inl ⟨by rfl, ?_⟩) hHeld ?_ ?_
              rotate_left
              · rintro w' ⟨s0, s1, s2, s3, s4, s5, s6, s7, s8⟩
                go_simp
                with_reducible rfl
              rotate_left
              · simp only [Act.put, List.setIfInBounds_toArray, List.set_cons_zero, List.set_cons_succ, i64_w, i32_w]
                rfl
              refine last_ (i := 18) (N := some 141) #[true, true, true, true, true, true, true, true, true, true, true, true, true, true, true, true, true, true, true, false, false] rfl rfl (by kernel_rfl) (by decide) (fun K hK => ?_)
              refine goes_ Try.func14 (by kernel_rfl) rfl #[.agg #[.int .i64 x.f1.f0, .string x.f1.f1, .slice Ae x.f1.f2.length ce], .agg #[.int .i64 x.f1.f0, .string x.f1.f1, .slice Ax x.f1.f2.length cx]] (by rfl) rfl rfl (by simp only [List.map_toArray, List.map_cons, List.map_nil]; rfl) ?_
              with_reducible refine (syntax_SameNode.calls x.f1.f0 x.f1.f1 Ae ce x.f1.f2 x.f1.f0 x.f1.f1 Ax cx x.f1.f2 true _ (Kd.C_drew (Kd.C_alloc HEC.out _)) HEL.out (Kd.C_drew (Kd.C_alloc HXC.out _)) HXL.out (same_self _)).mono ?_
              rintro e w7 ⟨rfl, hb7⟩
              refine ⟨_, rfl, ?_⟩
              refine hK.out _ _ ?_
              clear hK K
              refine norm_ (a' := ?_) ?_ ?_
              rotate_left
              · show Act.put _ (some 141) _ = _
                simp only [Act.put, List.setIfInBounds_toArray, List.set_cons_zero, List.set_cons_succ, i64_w, i32_w]
                rfl
              refine pure_ (i := 19) (N := some 142) (v := ?_) (a' := ?_) #[true, true, true, true, true, true, true, true, true, true, true, true, true, true, true, true, true, true, true, true, false] rfl rfl (by kernel_rfl) (fun _ _ _ h => h) (Or.inl ⟨by rfl, ?_⟩) ?_ ?_
              rotate_left
              · intro w'
                go_simp
                with_reducible rfl
              rotate_left
              · simp only [Act.put, List.setIfInBounds_toArray, List.set_cons_zero, List.set_cons_succ, i64_w, i32_w]
                rfl
              refine pure_ (i := 20) (N := some 143) (v := ?_) (a' := ?_) #[true, true, true, true, true, true, true, true, true, true, true, true, true, true, true, true, true, true, true, true, true] rfl rfl (by kernel_rfl) (fun _ _ _ h => h) (Or.inl ⟨by rfl, ?_⟩) ?_ ?_
              rotate_left
              · intro w'
                go_simp
                with_reducible rfl
              rotate_left
              · simp only [Act.put, List.setIfInBounds_toArray, List.set_cons_zero, List.set_cons_succ, i64_w, i32_w]
                rfl
              refine done_ (by kernel_rfl) ?_
              go_wp2_with (fail)
              go_meet
              case rel => exact ⟨by simp, below_step (below_alloc (Below.refl _ _) _) (below_drew_l hb7)⟩
            case rest =>
              obtain ⟨rfl, hb⟩ := hcut
              have KB2 := Aside0.mk (below_step KB.out hb)
              clear hb
              go_wp2_with (fail)
              go_roundg (l1.length + l2.length - i)
              case measure => omega
              case rel => exact ⟨i + 1, by go_num, by omega, KB2.out⟩
          · have hge1' : (l1.length : Int) ≤ (i : Int) := by omega
            have EX : Aside0 (rd_T51 (l1 ++ l2) i = rd_T51 l2 ((i : Int) - (l1.length : Int))) := ⟨rd_right (by omega)⟩
            obtain ⟨ed, Ae, ce, hA5, he0, he1, he2, he3, hel, heC⟩ := at_T51 KDA2 (i : Int) (by omega) (by rw [HLEN.out]; omega)
            obtain ⟨xd, Ax, cx, hAx, hx0, hx1, hx2, hx3, hxl, hxC⟩ := at_T51 KD2r ((i : Int) - (l1.length : Int)) (by omega) (by omega)
            rw [EX.out] at he0 he1 he2 he3 hel heC
            have etn : ((i : Int) - (l1.length : Int)).toNat = i - l1.length := by omega
            rw [etn] at hx0 hx1 hx2 hx3
            simp only [Int.toNat_natCast] at he0 he1 he2 he3
            generalize rd_T51 l2 ((i : Int) - (l1.length : Int)) = x at he0 he1 he2 he3 hel heC hx0 hx1 hx2 hx3 hxl hxC
            subst hA5
            subst hAx
            have HEL := Aside0.mk hel
            have HEC := Aside0.mk heC
            have HXL := Aside0.mk hxl
            have HXC := Aside0.mk hxC
            have XB := Aside0.mk (blk_new wr (.cells #[.string x.f0, .int .i64 x.f1.f0, .string x.f1.f1, .slice Ax x.f1.f2.length cx] 51))
            have kx0 : ∀ o, (wr.alloc o).cell? (xd.add ((i - l1.length) * 4)) = some (.string x.f0) := fun o => cell_alc hx0 o
            have kx1 : ∀ o, (wr.alloc o).cell? ⟨(xd.add ((i - l1.length) * 4)).block, (xd.add ((i - l1.length) * 4)).off + 1, none⟩ = some (.int .i64 x.f1.f0) := fun o => cell_alc hx1 o
            have kx2 : ∀ o, (wr.alloc o).cell? ⟨(xd.add ((i - l1.length) * 4)).block, (xd.add ((i - l1.length) * 4)).off + 2, none⟩ = some (.string x.f1.f1) := fun o => cell_alc hx2 o
            have kx3 : ∀ o, (wr.alloc o).cell? ⟨(xd.add ((i - l1.length) * 4)).block, (xd.add ((i - l1.length) * 4)).off + 3, none⟩ = some (.slice Ax x.f1.f2.length cx) := fun o => cell_alc hx3 o
            have ke0 := Aside0.mk (cell_alc he0 (.cells #[.string x.f0, .int .i64 x.f1.f0, .string x.f1.f1, .slice Ax x.f1.f2.length cx] 51))
            have ke1 := Aside0.mk (cell_alc he1 (.cells #[.string x.f0, .int .i64 x.f1.f0, .string x.f1.f1, .slice Ax x.f1.f2.length cx] 51))
            have ke2 := Aside0.mk (cell_alc he2 (.cells #[.string x.f0, .int .i64 x.f1.f0, .string x.f1.f1, .slice Ax x.f1.f2.length cx] 51))
            have ke3 := Aside0.mk (cell_alc he3 (.cells #[.string x.f0, .int .i64 x.f1.f0, .string x.f1.f1, .slice Ax x.f1.f2.length cx] 51))
            have kp11 : ∀ o, (wr.alloc o).cell? ⟨w2.heap.size, 1, none⟩ = some (.slice A2 l1.length c2) := fun o => cell_alc q11 o
            have kp21 : ∀ o, (wr.alloc o).cell? ⟨w3.heap.size, 1, none⟩ = some (.slice (some xd) l2.length c3) := fun o => cell_alc q21 o
            have kpa1 := Aside0.mk (cell_alc qa1 (.cells #[.string x.f0, .int .i64 x.f1.f0, .string x.f1.f1, .slice Ax x.f1.f2.length cx] 51))
            clear hel heC hxl hxC hx0 hx1 hx2 hx3 he0 he1 he2 he3 KDA2
            go_upto_region 20 with (fail)
            go_cut [143] (fun s143 wx => s143 = .bool false ∧ Below wr.heap.size wr wx)
            case first =>
              refine start_ (n := 21) (S := fun w' => w'.cell? ⟨w5.heap.size, 1, none⟩ = some (.slice (some ed) (l1.length + l2.length) c5) ∧ w'.cell? ⟨wr.heap.size, 0, none⟩ = some (.string x.f0) ∧ w'.cell? ⟨wr.heap.size, 1, none⟩ = some (.int .i64 x.f1.f0) ∧ w'.cell? ⟨wr.heap.size, 2, none⟩ = some (.string x.f1.f1) ∧ w'.cell? ⟨wr.heap.size, 3, none⟩ = some (.slice Ax x.f1.f2.length cx) ∧ w'.cell? (ed.add (i * 4)) = some (.string x.f0) ∧ w'.cell? ⟨(ed.add (i * 4)).block, (ed.add (i * 4)).off + 1, none⟩ = some (.int .i64 x.f1.f0) ∧ w'.cell? ⟨(ed.add (i * 4)).block, (ed.add (i * 4)).off + 2, none⟩ = some (.string x.f1.f1) ∧ w'.cell? ⟨(ed.add (i * 4)).block, (ed.add (i * 4)).off + 3, none⟩ = some (.slice Ae x.f1.f2.length ce)) (ds := [18]) #[false, false, false, false, false, false, false, false, false, false, false, false, false, false, false, false, false, false, false, false, false] (by kernel_rfl) rfl rfl ⟨kpa1.out, cellAt XB.out 0 rfl, cellAt XB.out 1 rfl, cellAt XB.out 2 rfl, cellAt XB.out 3 rfl, ke0.out, ke1.out, ke2.out, ke3.out⟩ (fun hHeld => ?_)
              refine pure_ (i := 0) (N := some 123) (v := ?_) (a' := ?_) #[true, false, false, false, false, false, false, false, false, false, false, false, false, false, false, false, false, false, false, false, false] rfl rfl (by kernel_rfl) (fun _ _ _ h => h) (Or.inl ⟨by rfl, ?_⟩) ?_ ?_
              rotate_left
              · intro w'
                go_simp
                with_reducible rfl
              rotate_left
              · simp only [Act.put, List.setIfInBounds_toArray, List.set_cons_zero, List.set_cons_succ, i64_w, i32_w]
                rfl
              refine pure_ (i := 2) (N := some 125) (v := ?_) (a' := ?_) #[true, false, true, false, false, false, false, false, false, false, false, false, false, false, false, false, false, false, false, false, false] rfl rfl (by kernel_rfl) (fun _ _ _ h => h) (Or.inl ⟨by rfl, ?_⟩) ?_ ?_
              rotate_left
              · intro w'
                go_simp
                with_reducible rfl
              rotate_left
              · simp only [Act.put, List.setIfInBounds_toArray, List.set_cons_zero, List.set_cons_succ, i64_w, i32_w]
                rfl
              refine pure_ (i := 6) (N := some 129) (v := ?_) (a' := ?_) #[true, false, true, false, false, false, true, false, false, false, false, false, false, false, false, false, false, false, false, false, false] rfl rfl (by kernel_rfl) (fun _ _ _ h => h) (Or.inl ⟨by rfl, ?_⟩) ?_ ?_
              rotate_left
              · intro w'
                go_simp
                with_reducible rfl
              rotate_left
              · simp only [Act.put, List.setIfInBounds_toArray, List.set_cons_zero, List.set_cons_succ, i64_w, i32_w]
                rfl
              refine take_ (i := 1) (N := some 124) (v := ?_) (a' := ?_) #[true, true, true, false, false, false, true, false, false, false, false, false, false, false, false, false, false, false, false, false, false] rfl rfl (by kernel_rfl) (fun _ _ _ h => h) (Or.inl ⟨by rfl, ?_⟩) hHeld ?_ ?_
              rotate_left
              · rintro w' ⟨s0, s1, s2, s3, s4, s5, s6, s7, s8⟩
                go_simp
                with_reducible rfl
              rotate_left
              · simp only [Act.put, List.setIfInBounds_toArray, List.set_cons_zero, List.set_cons_succ, i64_w, i32_w]
                rfl
              refine pure_ (i := 3) (N := some 126) (v := ?_) (a' := ?_) #[true, true, true, true, false, false, true, false, false, false, false, false, false, false, false, false, false, false, false, false, false] rfl rfl (by kernel_rfl) (fun _ _ _ h => h) (Or.inl ⟨by rfl, ?_⟩) ?_ ?_
              rotate_left
              · intro w'
                go_simp
                with_reducible rfl
              rotate_left
              · simp only [Act.put, List.setIfInBounds_toArray, List.set_cons_zero, List.set_cons_succ, i64_w, i32_w]
                rfl
              refine pure_ (i := 4) (N := some 127) (v := ?_) (a' := ?_) #[true, true, true, true, true, false, true, false, false, false, false, false, false, false, false, false, false, false, false, false, false] rfl rfl (by kernel_rfl) (fun _ _ _ h => h) (Or.inl ⟨by rfl, ?_⟩) ?_ ?_
              rotate_left
              · intro w'
                go_simp
                with_reducible rfl
              rotate_left
              · simp only [Act.put, List.setIfInBounds_toArray, List.set_cons_zero, List.set_cons_succ, i64_w, i32_w]
                rfl
              refine take_ (i := 5) (N := some 128) (v := ?_) (a' := ?_) #[true, true, true, true, true, true, true, false, false, false, false, false, false, false, false, false, false, false, false, false, false] rfl rfl (by kernel_rfl) (fun _ _ _ h => h) (Or.inl ⟨by rfl, ?_⟩) hHeld ?_ ?_
              rotate_left
              · rintro w' ⟨s0, s1, s2, s3, s4, s5, s6, s7, s8⟩
                go_simp
                with_reducible rfl
              rotate_left
              · simp only [Act.put, List.setIfInBounds_toArray, List.set_cons_zero, List.set_cons_succ, i64_w, i32_w]
                rfl
              refine take_ (i := 7) (N := some 130) (v := ?_) (a' := ?_) #[true, true, true, true, true, true, true, true, false, false, false, false, false, false, false, false, false, false, false, false, false] rfl rfl (by kernel_rfl) (fun _ _ _ h => h) (Or.inl ⟨by rfl, ?_⟩) hHeld ?_ ?_
              rotate_left
              · rintro w' ⟨s0, s1, s2, s3, s4, s5, s6, s7, s8⟩
                go_simp
                with_reducible rfl
              rotate_left
              · simp only [Act.put, List.setIfInBounds_toArray, List.set_cons_zero, List.set_cons_succ, i64_w, i32_w]
                rfl
              refine pure_ (i := 8) (N := some 131) (v := ?_) (a' := ?_) #[true, true, true, true, true, true, true, true, true, false, false, false, false, false, false, false, false, false, false, false, false] rfl rfl (by kernel_rfl) (fun _ _ _ h => h) (Or.inl ⟨by rfl, ?_⟩) ?_ ?_
              rotate_left
              · intro w'
                go_simp
                with_reducible rfl
              rotate_left
              · simp only [Act.put, List.setIfInBounds_toArray, List.set_cons_zero, List.set_cons_succ, i64_w, i32_w]
                rfl
              refine pure_ (i := 9) (N := some 132) (v := ?_) (a' := ?_) #[true, true, true, true, true, true, true, true, true, true, false, false, false, false, false, false, false, false, false, false, false] rfl rfl (by kernel_rfl) (fun _ _ _ h => h) (Or.inl ⟨by rfl, ?_⟩) ?_ ?_
              rotate_left
              · intro w'
                go_simp
                with_reducible rfl
              rotate_left
              · simp only [Act.put, List.setIfInBounds_toArray, List.set_cons_zero, List.set_cons_succ, i64_w, i32_w]
                rfl
              refine pure_ (i := 10) (N := some 133) (v := ?_) (a' := ?_) #[true, true, true, true, true, true, true, true, true, true, true, false, false, false, false, false, false, false, false, false, false] rfl rfl (by kernel_rfl) (fun _ _ _ h => h) (Or.inl ⟨by rfl, ?_⟩) ?_ ?_
              rotate_left
              · intro w'
                go_simp
                with_reducible rfl
              rotate_left
              · simp only [Act.put, List.setIfInBounds_toArray, List.set_cons_zero, List.set_cons_succ, i64_w, i32_w]
                rfl
              refine pure_ (i := 12) (N := some 135) (v := ?_) (a' := ?_) #[true, true, true, true, true, true, true, true, true, true, true, false, true, false, false, false, false, false, false, false, false] rfl rfl (by kernel_rfl) (fun _ _ _ h => h) (Or.inl ⟨by rfl, ?_⟩) ?_ ?_
              rotate_left
              · intro w'
                go_simp
                with_reducible rfl
              rotate_left
              · simp only [Act.put, List.setIfInBounds_toArray, List.set_cons_zero, List.set_cons_succ, i64_w, i32_w]
                rfl
              refine pure_ (i := 16) (N := some 139) (v := ?_) (a' := ?_) #[true, true, true, true, true, true, true, true, true, true, true, false, true, false, false, false, true, false, false, false, false] rfl rfl (by kernel_rfl) (fun _ _ _ h => h) (Or.inl ⟨by rfl, ?_⟩) ?_ ?_
              rotate_left
              · intro w'
                go_simp
                with_reducible rfl
              rotate_left
              · simp only [Act.put, List.setIfInBounds_toArray, List.set_cons_zero, List.set_cons_succ, i64_w, i32_w]
                rfl
              refine take_ (i := 11) (N := some 134) (v := ?_) (a' := ?_) #[true, true, true, true, true, true, true, true, true, true, true, true, true, false, false, false, true, false, false, false, false] rfl rfl (by kernel_rfl) (fun _ _ _ h => h) (Or.inl ⟨by rfl, ?_⟩) hHeld ?_ ?_
              rotate_left
              · rintro w' ⟨s0, s1, s2, s3, s4, s5, s6, s7, s8⟩
                go_simp
                with_reducible rfl
              rotate_left
              · simp only [Act.put, List.setIfInBounds_toArray, List.set_cons_zero, List.set_cons_succ, i64_w, i32_w]
                rfl
              refine pure_ (i := 13) (N := some 136) (v := ?_) (a' := ?_) #[true, true, true, true, true, true, true, true, true, true, true, true, true, true, false, false, true, false, false, false, false] rfl rfl (by kernel_rfl) (fun _ _ _ h => h) (Or.inl ⟨by rfl, ?_⟩) ?_ ?_
              rotate_left
              · intro w'
                go_simp
                with_reducible rfl
              rotate_left
              · simp only [Act.put, List.setIfInBounds_toArray, List.set_cons_zero, List.set_cons_succ, i64_w, i32_w]
                rfl
              refine pure_ (i := 14) (N := some 137) (v := ?_) (a' := ?_) #[true, true, true, true, true, true, true, true, true, true, true, true, true, true, true, false, true, false, false, false, false] rfl rfl (by kernel_rfl) (fun _ _ _ h => h) (Or.inl ⟨by rfl, ?_⟩) ?_ ?_
              rotate_left
              · intro w'
                go_simp
                with_reducible rfl
              rotate_left
              · simp only [Act.put, List.setIfInBounds_toArray, List.set_cons_zero, List.set_cons_succ, i64_w, i32_w]
                rfl
              refine take_ (i := 15) (N := some 138) (v := ?_) (a' := ?_) #[true, true, true, true, true, true, true, true, true, true, true, true, true, true, true, true, true, false, false, false, false] rfl rfl (by kernel_rfl) (fun _ _ _ h => h) (Or.inl ⟨by rfl, ?_⟩) hHeld ?_ ?_
              rotate_left
              · rintro w' ⟨s0, s1, s2, s3, s4, s5, s6, s7, s8⟩
                go_simp
                with_reducible rfl
              rotate_left
              · simp only [Act.put, List.setIfInBounds_toArray, List.set_cons_zero, List.set_cons_succ, i64_w, i32_w]
                rfl
              refine take_ (i := 17) (N := some 140) (v := ?_) (a' := ?_) #[true, true, true, true, true, true, true, true, true, true, true, true, true, true, true, true, true, true, false, false, false] rfl rfl (by kernel_rfl) (fun _ _ _ h => h) (Or.inl ⟨by rfl, ?_⟩) hHeld ?_ ?_
              rotate_left
              · rintro w' ⟨s0, s1, s2, s3, s4, s5, s6, s7, s8⟩
                go_simp
                with_reducible rfl
              rotate_left
              · simp only [Act.put, List.setIfInBounds_toArray, List.set_cons_zero, List.set_cons_succ, i64_w, i32_w]
                rfl
              refine last_ (i := 18) (N := some 141) #[true, true, true, true, true, true, true, true, true, true, true, true, true, true, true, true, true, true, true, false, false] rfl rfl (by kernel_rfl) (by decide) (fun K hK => ?_)
              refine goes_ Try.func14 (by kernel_rfl) rfl #[.agg #[.int .i64 x.f1.f0, .string x.f1.f1, .slice Ae x.f1.f2.length ce], .agg #[.int .i64 x.f1.f0, .string x.f1.f1, .slice Ax x.f1.f2.length cx]] (by rfl) rfl rfl (by simp only [List.map_toArray, List.map_cons, List.map_nil]; rfl) ?_
              with_reducible refine (syntax_SameNode.calls x.f1.f0 x.f1.f1 Ae ce x.f1.f2 x.f1.f0 x.f1.f1 Ax cx x.f1.f2 true _ (Kd.C_drew (Kd.C_alloc HEC.out _)) HEL.out (Kd.C_drew (Kd.C_alloc HXC.out _)) HXL.out (same_self _)).mono ?_
              rintro e w7 ⟨rfl, hb7⟩
              refine ⟨_, rfl, ?_⟩
              refine hK.out _ _ ?_
              clear hK K
              refine norm_ (a' := ?_) ?_ ?_
              rotate_left
              · show Act.put _ (some 141) _ = _
                simp only [Act.put, List.setIfInBounds_toArray, List.set_cons_zero, List.set_cons_succ, i64_w, i32_w]
                rfl
              refine pure_ (i := 19) (N := some 142) (v := ?_) (a' := ?_) #[true, true, true, true, true, true, true, true, true, true, true, true, true, true, true, true, true, true, true, true, false] rfl rfl (by kernel_rfl) (fun _ _ _ h => h) (Or.inl ⟨by rfl, ?_⟩) ?_ ?_
              rotate_left
              · intro w'
                go_simp
                with_reducible rfl
              rotate_left
              · simp only [Act.put, List.setIfInBounds_toArray, List.set_cons_zero, List.set_cons_succ, i64_w, i32_w]
                rfl
              refine pure_ (i := 20) (N := some 143) (v := ?_) (a' := ?_) #[true, true, true, true, true, true, true, true, true, true, true, true, true, true, true, true, true, true, true, true, true] rfl rfl (by kernel_rfl) (fun _ _ _ h => h) (Or.inl ⟨by rfl, ?_⟩) ?_ ?_
              rotate_left
              · intro w'
                go_simp
                with_reducible rfl
              rotate_left
              · simp only [Act.put, List.setIfInBounds_toArray, List.set_cons_zero, List.set_cons_succ, i64_w, i32_w]
                rfl
              refine done_ (by kernel_rfl) ?_
              go_wp2_with (fail)
              go_meet
              case rel => exact ⟨by simp, below_step (below_alloc (Below.refl _ _) _) (below_drew_l hb7)⟩
            case rest =>
              obtain ⟨rfl, hb⟩ := hcut
              have KB2 := Aside0.mk (below_step KB.out hb)
              clear hb
              go_wp2_with (fail)
              go_roundg (l1.length + l2.length - i)
              case measure => omega
              case rel => exact ⟨i + 1, by go_num, by omega, KB2.out⟩
        · have hge : (l1.length : Int) + (l2.length : Int) ≤ (i : Int) := by omega
          clear KD1r KD2r KDA2
          go_wp2_with (fail)
          go_ret
          exact ⟨rfl, HB6.out.trans (KB.out.mono HB6.out.size)⟩
  · have hbig' : 64 < (l1.length : Int) + (l2.length : Int) := by omega
    clear hbig
    go_wp2_with (fail)
    go_ret
    exact ⟨rfl, HB5.out⟩
theorem joins_walk (a b : ByteArray) (w : World) : Calls Try.prog 4 #[.string a, .string b] w fun e w' => e = .returned (.bool true) ∧ Below w.heap.size w w' := by
  by_cases hbig : 500 < (a.size : Int) ∨ 500 < (b.size : Int)
  · exact joins_big hbig
  · obtain ⟨r1, h1⟩ : ∃ r, parseR a = some r := parse_total a
    obtain ⟨r2, h2⟩ : ∃ r, parseR b = some r := parse_total b
    have p1 := parse_fR h1
    have p2 := parse_fR h2
    cases r1 with
    | bad l k x => exact joins_bad (by omega) (by omega) p1 p2 (.inl (parse_codeR h1))
    | ok g j =>
      cases r2 with
      | bad l k x => exact joins_bad (by omega) (by omega) p1 p2 (.inr (parse_codeR h2))
      | ok h k =>
        obtain ⟨tb, hsb⟩ := parse_scanR h2
        have hl : lex_Scan.f b = some (tb.map toS, 0, 0, 0) := by unfold lex_Scan.f; rw [hsb]
        have hpos := (toks_of_scan hsb).pos
        have c1 := parse_count h1
        have c2 := parse_count h2
        refine joins_good (by omega) (by omega) p1 p2 hl hpos (by omega) (by omega) fun hsum hne => ?_
        obtain ⟨x, i, hx, hf0, hf1⟩ := join_parse h1 h2 hsb (by omega) (by omega) hsum (fun t ht => by
          have := rd_tok ht
          rw [← this]
          exact hne)
        rw [parse_fR hx]
        simp only [parseT]
        rw [hf0, hf1]
end
end Go.Proofs.Ytgllncnfhiiobaa.Sw
