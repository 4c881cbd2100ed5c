/- The walk of lex.Scan. -/
import Derived.Test.YtohbjgckcbdegaaLexWh
import Derived.Test.YtohbjgckcbdegaaLexLaws
set_option linter.unusedVariables false
set_option linter.unusedSimpArgs false
namespace Go.Proofs.Ytohbjgckcbdegaa.Lw
open Go.RowKit Go.Proofs.YtohbjgckcbdegaaW.PrintWords Go.Proofs.YtohbjgckcbdegaaW.PrintLast Go.Proofs.YtohbjgckcbdegaaW.PrintMore Go.Proofs.Ytohbjgckcbdegaa

def tokCells (t : Lx.Tok) : List Value := [.int .i64 t.kind, .string ⟨t.text.toArray⟩, .int .i64 t.p.1, .int .i64 t.p.2]
theorem tok_text {tb : ByteArray} {l : List UInt8} (h : tb.data.toList = l) : tb = ⟨l.toArray⟩ := by
  cases tb with
  | mk d => cases h; simp
def ScanR (b : Nat) (W0 : World) (g : Nat) (s : ByteArray) (R : Except Lx.Flt (List Lx.Tok)) (k : Nat) (wr : World) : Prop :=
  ∃ (a l c : Int) (v : Value) (toks : List Lx.Tok) (m : Nat), Scs b wr g s a l c v (toks.flatMap tokCells) toks.length 0 0 0 ∧ At s a l c ∧ Below b W0 wr ∧ Lx.skip false (suf s a) (l, c) = (suf s a, (l, c)) ∧
    Lx.scanF m (suf s a) (l, c) toks = R ∧ (toks.length : Int) ≤ a ∧ (s.size : Int) - a < k ∧ (s.size : Int) - a < m
/-- What Scan leaves. -/
def ScanP (w : World) (R : Except Lx.Flt (List Lx.Tok)) (x : Ending) (w' : World) : Prop :=
  match R with
  | .error f => x = .returned (.tuple #[.slice none 0 0, .agg #[.int .i64 f.p.1, .int .i64 f.p.2, .int .i64 f.code]]) ∧ Below w.heap.size w w'
  | .ok toks => ∃ v : Value, x = .returned (.tuple #[v, .agg #[.int .i64 0, .int .i64 0, .int .i64 0]]) ∧ w'.ownsRow w.heap.size 31 4 v toks.length (toks.flatMap tokCells) ∧ Below w.heap.size w w'

theorem infoFlt : (Try.prog.info? 27).map (·.size) = some 3 := by kernel_rfl
theorem flt_store {w : World} {q T : Nat} {x0 x1 x2 : Value} (h : w.heap[q]? = some (.cells #[x0, x1, x2] T (0, 0))) (y0 y1 y2 : Value) :
    (((w.setCell ⟨q, 0, none⟩ y0).setCell ⟨q, 1, none⟩ y1).setCell ⟨q, 2, none⟩ y2).heap[q]? = some (.cells #[y0, y1, y2] T (0, 0)) := by
  have := blk_set (blk_set (blk_set h 0 y0) 1 y1) 2 y2
  simpa using this
theorem below_set3 {B : Nat} {w w' : World} {q : Nat} (h : Below B w w') (hq : B ≤ q) (y0 y1 y2 : Value) : Below B w (((w'.setCell ⟨q, 0, none⟩ y0).setCell ⟨q, 1, none⟩ y1).setCell ⟨q, 2, none⟩ y2) :=
  ((h.setCell (p := ⟨q, 0, none⟩) hq y0).setCell (p := ⟨q, 1, none⟩) hq y1).setCell (p := ⟨q, 2, none⟩) hq y2

set_option maxHeartbeats 2000000 in
set_option maxRecDepth 100000 in
theorem scan_calls (s : ByteArray) (w : World) :
    Calls Try.prog 11 #[.string s] w (ScanP w (Lx.scan s.data.toList)) := by
  have hsl : s.data.toList.length = s.size := Array.length_toList
  by_cases hbig : 65536 < (s.size : Int)
  · have HR : Aside0 (Lx.scan s.data.toList = .error ⟨(0, 0), 6⟩) := ⟨by unfold Lx.scan; rw [if_pos (by omega)]⟩
    clear hsl
    go_enter Try.func11, Try.ntmps11
    go_wp2_with fail
    rw [HR.out]
    refine bodyPost_ret (results_tc (ty := 27) (u := 2) (p := 3) rfl _ _ w.heap.size 27 #[.int .i64 0, .int .i64 0, .int .i64 6] (0, 0) _ rfl ?_ Try.underlying27 rfl infoFlt) rfl ⟨rfl, ?_⟩
    · exact blk_new w _
    · exact below_alloc (Below.refl _ _) _
  · have HR : Aside0 (Lx.scan s.data.toList = Lx.scanF (s.data.toList.length + 1) s.data.toList (1, 1) []) := ⟨by unfold Lx.scan; rw [if_neg (by omega)]⟩
    have hle : (s.size : Int) ≤ 65536 := by omega
    clear hbig
    go_enter Try.func11, Try.ntmps11
    go_wp2_with fail
    have hq0 := blk_new w (.cells #[.int .i64 0, .int .i64 0, .int .i64 0] 27)
    have HQ := Aside0.mk (blk_alloc hq0 (.cells #[.string s, .int .i64 0, .int .i64 1, .int .i64 1, .slice none 0 0, .int .i64 0, .int .i64 0, .int .i64 0] 47))
    have hS : Scn ((w.alloc (.cells #[.int .i64 0, .int .i64 0, .int .i64 0] 27)).alloc (.cells #[.string s, .int .i64 0, .int .i64 1, .int .i64 1, .slice none 0 0, .int .i64 0, .int .i64 0, .int .i64 0] 47)) (w.heap.size + 1) s 0 1 1 (.slice none 0 0) 0 0 0 := by
      have := blk_new (w.alloc (.cells #[.int .i64 0, .int .i64 0, .int .i64 0] 27)) (.cells #[.string s, .int .i64 0, .int .i64 1, .int .i64 1, .slice none 0 0, .int .i64 0, .int .i64 0, .int .i64 0] 47)
      rw [World.size_alloc] at this
      exact this
    have HB0 := Aside0.mk (below_alloc (below_alloc (Below.refl w.heap.size w) (.cells #[.int .i64 0, .int .i64 0, .int .i64 0] 27)) (.cells #[.string s, .int .i64 0, .int .i64 1, .int .i64 1, .slice none 0 0, .int .i64 0, .int .i64 0, .int .i64 0] 47))
    clear hq0
    generalize ((w.alloc (.cells #[.int .i64 0, .int .i64 0, .int .i64 0] 27)).alloc (.cells #[.string s, .int .i64 0, .int .i64 1, .int .i64 1, .slice none 0 0, .int .i64 0, .int .i64 0, .int .i64 0] 47)) = W0 at HQ hS HB0 ⊢
    generalize hqx : w.heap.size = q at HQ hS HB0 ⊢
    have EQ := Aside0.mk hqx
    clear hqx
    generalize hg : q + 1 = g at hS ⊢
    have HS := Aside0.mk hS
    have hA : At s 0 1 1 := ⟨by omega, by omega, by omega, by omega, by omega, by omega⟩
    have hqg : q < g := by omega
    clear hg
    refine (skip_calls hS hA).mono ?_
    rintro e w1 ⟨rfl, a1, l1, c1, hS1, hG1, hA1, ha1, hk1, hk1'⟩
    have HA1 := Aside0.mk hA1
    have HS1 := Aside0.mk hS1
    have HG1 := Aside0.mk hG1
    have HK1 := Aside0.mk (And.intro hk1 hk1')
    have r0 := hA1.a0
    have hB1 := Aside0.mk (below_grown hG1 (Nat.le_refl g) HS.out.lt)
    clear hS hA hS1 hG1 hA1 hk1 hk1'
    go_wp2_with fail
    go_loopg [] (s.size + 1) (fun k wr => ScanR g W0 g s (Lx.scan s.data.toList) k wr)
    case atStart =>
      refine ⟨a1, l1, c1, .slice none 0 0, [], s.data.toList.length + 1, ⟨HS1.out, own_nil _ _ _ _, Nat.le_refl _⟩, HA1.out, hB1.out, HK1.out.2, ?_, by simpa using r0, by omega, by omega⟩
      rw [HR.out]
      have e0 : suf s 0 = s.data.toList := rfl
      have e1 := HK1.out.1
      rw [e0] at e1
      simp only [Lx.scanF, e1, HK1.out.2]
    case round =>
      obtain ⟨a', l', c', v, toks, m, hSc, hT, hBW, hsk, hsc, htl, hk, hm⟩ := hrel
      have LC := Aside0.mk hSc
      have LT := Aside0.mk hT
      have LB := Aside0.mk hBW
      have LK := Aside0.mk (And.intro hsk hsc)
      have r0' := hT.a0
      have r1' := hT.a1
      have hgw : g < wr.heap.size := hSc.scn.lt
      have hqw := Aside0.mk ((hBW.block q hqg).trans HQ.out)
      clear hSc hT hBW hsk hsc
      by_cases hlt' : a' < (s.size : Int)
      · obtain ⟨c, hc, hcb⟩ := suf_cons r0' hlt'
        have HC := Aside0.mk (And.intro hc hcb)
        clear hc hcb
        obtain ⟨m, rfl⟩ : ∃ m', m = m' + 1 := ⟨m - 1, by omega⟩
        go_wp2_with (first | (go_at_call 18; refine (more_yes LC.out.scn hlt').mono ?_; rintro e w4 ⟨rfl, n4, hn4⟩))
        have LC4 := Aside0.mk (show Scs g w4 g s a' l' c' v (toks.flatMap tokCells) toks.length 0 0 0 by rw [← hn4]; exact ⟨LC.out.scn, LC.out.own, LC.out.ge⟩)
        have LB4 := Aside0.mk (show Below g W0 w4 by rw [← hn4]; exact pw_below_drewN LB.out _)
        clear hn4
        refine (token_calls LC4.out LT.out (by omega) hlt' c HC.out.1 HC.out.2).mono ?_
        intro e w5 hE
        cases hres : Lx.token c (suf s (a' + 1)) (l', c') with
        | error f =>
          rw [hres] at hE
          obtain ⟨rfl, k5, l5, c5, v5, hS5, hB5⟩ := hE
          have HRS := Aside0.mk hres
          have HB5 := Aside0.mk (LB4.out.trans hB5)
          have HQ5 := Aside0.mk (((LB4.out.trans hB5).block q hqg).trans HQ.out)
          have x5 := (blk_cell hS5 5).trans rfl
          have x6 := (blk_cell hS5 6).trans rfl
          have x7 := (blk_cell hS5 7).trans rfl
          have y0 := (blk_cell HQ5.out 0).trans rfl
          have y1 := (blk_cell HQ5.out 1).trans rfl
          have y2 := (blk_cell HQ5.out 2).trans rfl
          have z0 := blk_frozen HQ5.out 0
          have z1 := blk_frozen HQ5.out 1
          have z2 := blk_frozen HQ5.out 2
          clear hres hB5 hS5
          obtain ⟨p5, e7⟩ := f
          obtain ⟨e5, e6⟩ := p5
          dsimp only at x5 x6 x7
          go_wp2_with fail
          refine start_ (n := 6) (S := fun w' => w'.cell? ⟨g, 5, none⟩ = some (.int .i64 e5) ∧ w'.cell? ⟨g, 6, none⟩ = some (.int .i64 e6) ∧ w'.cell? ⟨g, 7, none⟩ = some (.int .i64 e7)) (ds := [5]) #[false, false, false, false, false, false] (by kernel_rfl) rfl rfl ⟨x5, x6, x7⟩ (fun hHeld => ?_)
          refine pure_ (i := 0) (N := some 21) (v := ?_) (a' := ?_) #[true, false, false, false, false, false] rfl rfl (by kernel_rfl) (fun _ _ _ h => h) (Or.inl ⟨by rfl, ?_⟩) ?_ ?_
          rotate_left
          · intro w'
            go_simp
            with_reducible rfl
          rotate_left
          · simp only [Act.put, List.setIfInBounds_toArray, List.set_cons_zero, List.set_cons_succ, i64_w, i32_w]
            rfl
          refine pure_ (i := 1) (N := some 22) (v := ?_) (a' := ?_) #[true, true, false, false, false, false] rfl rfl (by kernel_rfl) (fun _ _ _ h => h) (Or.inl ⟨by rfl, ?_⟩) ?_ ?_
          rotate_left
          · intro w'
            go_simp
            with_reducible rfl
          rotate_left
          · simp only [Act.put, List.setIfInBounds_toArray, List.set_cons_zero, List.set_cons_succ, i64_w, i32_w]
            rfl
          refine pure_ (i := 2) (N := some 23) (v := ?_) (a' := ?_) #[true, true, true, false, false, false] rfl rfl (by kernel_rfl) (fun _ _ _ h => h) (Or.inl ⟨by rfl, ?_⟩) ?_ ?_
          rotate_left
          · intro w'
            go_simp
            with_reducible rfl
          rotate_left
          · simp only [Act.put, List.setIfInBounds_toArray, List.set_cons_zero, List.set_cons_succ, i64_w, i32_w]
            rfl
          refine pure_ (i := 4) (N := some 2) (v := ?_) (a' := ?_) #[true, true, true, false, true, false] rfl rfl (by kernel_rfl) (fun _ _ _ h => h) (Or.inl ⟨by rfl, ?_⟩) ?_ ?_
          rotate_left
          · intro w'
            go_simp
            with_reducible rfl
          rotate_left
          · simp only [Act.put, List.setIfInBounds_toArray, List.set_cons_zero, List.set_cons_succ, i64_w, i32_w]
            rfl
          refine take_ (i := 3) (N := some 24) (v := ?_) (a' := ?_) #[true, true, true, true, true, false] rfl rfl (by kernel_rfl) (fun _ _ _ h => h) (Or.inl ⟨by rfl, ?_⟩) hHeld ?_ ?_
          rotate_left
          · rintro w' ⟨s0, s1, s2⟩
            go_simp
            with_reducible rfl
          rotate_left
          · simp only [Act.put, List.setIfInBounds_toArray, List.set_cons_zero, List.set_cons_succ, i64_w, i32_w]
            rfl
          refine last_ (i := 5) (N := none) #[true, true, true, true, true, true] rfl rfl (by kernel_rfl) (by decide) (fun K hK => ?_)
          refine skip_ (w1 := ?_) (by rfl) rfl ?_ ?_
          rotate_left
          · go_simp
            rfl
          refine hK.out _ _ ?_
          clear hK K
          refine done_ (by kernel_rfl) ?_
          go_wp2_with fail
          have RR : Aside0 (Lx.scan s.data.toList = .error ⟨(e5, e6), e7⟩) := ⟨by
            rw [← LK.out.2, HC.out.1]
            have e := LK.out.1
            rw [HC.out.1] at e
            simp only [Lx.scanF, e, HRS.out]⟩
          rw [RR.out]
          refine bodyPost_ret (results_tc (ty := 27) (u := 2) (p := 3) rfl _ _ q 27 #[.int .i64 e5, .int .i64 e6, .int .i64 e7] (0, 0) _ rfl ?_ Try.underlying27 rfl infoFlt) rfl ⟨rfl, ?_⟩
          · exact blk_drew (flt_store HQ5.out _ _ _)
          · have hq0 := EQ.out
            refine below_drew (below_set3 ?_ (Nat.le_of_eq hq0) _ _ _)
            exact (Below.mono HB0.out (by omega)).trans (HB5.out.mono (by omega))
        | ok r =>
          obtain ⟨t, rest, p'⟩ := r
          rw [hres] at hE
          obtain ⟨rfl, tb, v5, a5, htb, hr5, hA5, hC5, hB5⟩ := hE
          have HRS := Aside0.mk hres
          have HB5 := Aside0.mk (LB4.out.trans hB5)
          have h5a := hA5.a0
          have h5b := hA5.a1
          have hlen : a' + 1 ≤ a5 := by
            have h1 := Lx.token_len hres
            rw [← hr5, suf_length, suf_length] at h1
            omega
          have HTB := Aside0.mk (And.intro (tok_text htb) hr5)
          have KC := Aside0.mk hC5
          have KA := Aside0.mk hA5
          clear hres hB5 htb hr5 hC5 hA5
          go_wp2_with fail
          refine (skip_calls KC.out.scn KA.out).mono ?_
          rintro e w6 ⟨rfl, a6, l6, c6, hS6, hG6, hA6, ha6, hk6, hk6'⟩
          have KS6 := Aside0.mk hS6
          have KG6 := Aside0.mk hG6
          have KA6 := Aside0.mk hA6
          have KK6 := Aside0.mk (And.intro hk6 hk6')
          have h6b := hA6.a1
          clear hS6 hG6 hA6 hk6 hk6'
          go_wp2_with fail
          go_roundg (((s.size : Int) - a6).toNat + 1)
          case measure => omega
          case rel =>
            have ng : some g ≠ v5.ownBlock := own_ne (g := g) (t := 47) KC.out.own KC.out.scn (by decide)
            refine ⟨a6, l6, c6, v5, toks ++ [t], m, ⟨KS6.out, ?_, Nat.le_refl _⟩, KA6.out, HB5.out.trans (below_grown KG6.out (Nat.le_refl _) KC.out.scn.lt), KK6.out.2, ?_, by simp; omega, by omega, by omega⟩
            · have := KC.out.own.kept KG6.out (Or.inr (Ne.symm ng))
              have e : (toks ++ [t]).flatMap tokCells = toks.flatMap tokCells ++ [.int .i64 t.kind, .string tb, .int .i64 t.p.1, .int .i64 t.p.2] := by
                rw [List.flatMap_append, HTB.out.1]; simp [tokCells]
              rw [e, List.length_append]
              exact this
            · rw [← LK.out.2, HC.out.1]
              have e := LK.out.1
              rw [HC.out.1] at e
              simp only [Lx.scanF, e, HRS.out]
              have e2 := KK6.out.1
              rw [HTB.out.2] at e2
              cases m with
              | zero => omega
              | succ m => simp only [Lx.scanF]; rw [show (p'.1, p'.2) = p' from rfl] at e2; rw [e2, KK6.out.2]
      · have hle' : (s.size : Int) ≤ a' := by omega
        clear hlt'
        obtain ⟨m, rfl⟩ : ∃ m', m = m' + 1 := by
          cases m with
          | zero => exfalso; omega
          | succ m => exact ⟨m, rfl⟩
        go_wp2_with (first | (go_at_call 18; refine (more_no LC.out.scn hle').mono ?_; rintro e w4 ⟨rfl, n4, hn4⟩))
        have LS := Aside0.mk (show Scn w4 g s a' l' c' v 0 0 0 by rw [← hn4]; exact LC.out.scn)
        have LO := Aside0.mk (show w4.ownsRow g 31 4 v toks.length (toks.flatMap tokCells) by rw [← hn4]; exact LC.out.own)
        have LB4 := Aside0.mk (show Below g W0 w4 by rw [← hn4]; exact pw_below_drewN LB.out _)
        have HQ4 := Aside0.mk ((LB4.out.block q hqg).trans HQ.out)
        have hbW : g ≤ w4.heap.size := by have := LS.out.lt; omega
        have yq0 := (blk_cell HQ4.out 0).trans rfl
        have yq1 := (blk_cell HQ4.out 1).trans rfl
        have yq2 := (blk_cell HQ4.out 2).trans rfl
        have zq0 := blk_frozen HQ4.out 0
        have zq1 := blk_frozen HQ4.out 1
        have zq2 := blk_frozen HQ4.out 2
        obtain ⟨i0, hi0, hz0, hz1, hz2⟩ := info_parts infoTok
        have hqb := hqg
        clear hn4
        refine start_ (n := 11) (S := fun w' => Scn w' g s a' l' c' v 0 0 0 ∧ w'.cell? ⟨g, 4, none⟩ = some v) (ds := [10]) #[false, false, false, false, false, false, false, false, false, false, false] (by kernel_rfl) rfl rfl ⟨LS.out, ((blk_cell LS.out 4).trans rfl)⟩ (fun hHeld => ?_)
        refine pure_ (i := 0) (N := some 25) (v := ?_) (a' := ?_) #[true, false, false, false, false, false, false, false, false, false, false] rfl rfl (by kernel_rfl) (fun _ _ _ h => h) (Or.inl ⟨by rfl, ?_⟩) ?_ ?_
        rotate_left
        · intro w'
          go_simp
          with_reducible rfl
        rotate_left
        · simp only [Act.put, List.setIfInBounds_toArray, List.set_cons_zero, List.set_cons_succ, i64_w, i32_w]
          rfl
        refine pure_ (i := 1) (N := some 26) (v := ?_) (a' := ?_) #[true, true, false, false, false, false, false, false, false, false, false] rfl rfl (by kernel_rfl) (fun _ _ _ h => h) (Or.inl ⟨by rfl, ?_⟩) ?_ ?_
        rotate_left
        · intro w'
          go_simp
          with_reducible rfl
        rotate_left
        · simp only [Act.put, List.setIfInBounds_toArray, List.set_cons_zero, List.set_cons_succ, i64_w, i32_w]
          rfl
        refine pure_ (i := 2) (N := some 27) (v := ?_) (a' := ?_) #[true, true, true, false, false, false, false, false, false, false, false] rfl rfl (by kernel_rfl) (fun _ _ _ h => h) (Or.inl ⟨by rfl, ?_⟩) ?_ ?_
        rotate_left
        · intro w'
          go_simp
          with_reducible rfl
        rotate_left
        · simp only [Act.put, List.setIfInBounds_toArray, List.set_cons_zero, List.set_cons_succ, i64_w, i32_w]
          rfl
        refine pure_ (i := 4) (N := some 29) (v := ?_) (a' := ?_) #[true, true, true, false, true, false, false, false, false, false, false] rfl rfl (by kernel_rfl) (fun _ _ _ h => h) (Or.inl ⟨by rfl, ?_⟩) ?_ ?_
        rotate_left
        · intro w'
          go_simp
          with_reducible rfl
        rotate_left
        · simp only [Act.put, List.setIfInBounds_toArray, List.set_cons_zero, List.set_cons_succ, i64_w, i32_w]
          rfl
        refine pure_ (i := 8) (N := some 33) (v := ?_) (a' := ?_) #[true, true, true, false, true, false, false, false, true, false, false] rfl rfl (by kernel_rfl) (fun _ _ _ h => h) (Or.inl ⟨by rfl, ?_⟩) ?_ ?_
        rotate_left
        · intro w'
          go_simp
          with_reducible rfl
        rotate_left
        · simp only [Act.put, List.setIfInBounds_toArray, List.set_cons_zero, List.set_cons_succ, i64_w, i32_w]
          rfl
        refine take_ (i := 3) (N := some 28) (v := ?_) (a' := ?_) #[true, true, true, true, true, false, false, false, true, false, false] rfl rfl (by kernel_rfl) (fun _ _ _ h => h) (Or.inl ⟨by rfl, ?_⟩) hHeld ?_ ?_
        rotate_left
        · rintro w' ⟨s0, s1⟩
          go_simp
          with_reducible rfl
        rotate_left
        · simp only [Act.put, List.setIfInBounds_toArray, List.set_cons_zero, List.set_cons_succ, i64_w, i32_w]
          rfl
        refine one_ (i := 5) (N := some 30) #[true, true, true, true, true, true, false, false, true, false, false] rfl rfl (by kernel_rfl) (by decide) (fun K hK => ?_)
        refine goes_ Try.func20 (by kernel_rfl) rfl #[.pointer (some ⟨g, 0, none⟩), .int .i64 4] (by rfl) rfl rfl (by simp only [List.map_toArray, List.map_cons, List.map_nil]; rfl) ?_
        with_reducible refine (here_scn hHeld.1 4).mono ?_
        rintro e w5 ⟨rfl, hg5, hS5⟩
        refine ⟨_, rfl, ?_⟩
        have hO5 := pw_own_below LO.out (below_of_grown (grown_from hg5))
        have hB5 : Below g w4 w5 := (below_of_grown (grown_from hg5)).mono hbW
        have hw5 : g ≤ w5.heap.size := Nat.le_trans hbW hB5.size
        refine hK.out _ _ ⟨hS5, ((blk_cell hS5 4).trans rfl)⟩ (fun hHeld => ?_)
        clear hK K
        refine norm_ (a' := ?_) ?_ ?_
        rotate_left
        · show Act.put _ (some 30) _ = _
          simp only [Act.put, List.setIfInBounds_toArray, List.set_cons_zero, List.set_cons_succ, i64_w, i32_w]
          rfl
        refine one_ (i := 6) (N := some 31) #[true, true, true, true, true, true, true, false, true, false, false] rfl rfl (by kernel_rfl) (by decide) (fun K hK => ?_)
        refine value_ (w1 := ?_) (v := ?_) (by rfl) rfl ?_ ?_
        rotate_left 2
        · go_simp
          constructor
          · rfl
          · rfl
        refine hK.out _ _ ⟨(hS5.alloc _), ((blk_cell (hS5.alloc _) 4).trans rfl)⟩ (fun hHeld => ?_)
        clear hK K
        refine norm_ (a' := ?_) ?_ ?_
        rotate_left
        · show Act.put _ (some 31) _ = _
          simp only [Act.put, List.setIfInBounds_toArray, List.set_cons_zero, List.set_cons_succ, i64_w, i32_w]
          rfl
        refine one_ (i := 7) (N := some 32) #[true, true, true, true, true, true, true, true, true, false, false] rfl rfl (by kernel_rfl) (by decide) (fun K hK => ?_)
        refine step_append_lies _ (by rfl) _ _ _ (by rfl) g 31 i0 _ 4 40 Try.underlying24 hi0 hz0 hz1 hz2 rfl (by omega) v toks.length (toks.flatMap tokCells) (by rfl) (hO5.alloc _) ⟨w5.heap.size, 0, none⟩ 1 1 [.int .i64 4, .string ⟨#[]⟩, .int .i64 l', .int .i64 c'] (by rfl) (by rfl) (World.news_of_block (cs := #[.int .i64 4, .string ⟨#[]⟩, .int .i64 l', .int .i64 c']) (t := 31) (fr := (0, 0)) (heap_alloc_new w5 _)) (by simp [Value.oneCell']) (by omega) (by unfold maxLen; omega) (by omega) (by simp; omega) (w5.heap.size + 1) (by simp) ?_
        intro gg cap w6 hown6 hgrow hat hlt6
        have ng : some g ≠ v.ownBlock := own_ne (g := g) (t := 47) hO5 hS5 (by decide)
        have hS6 : Scn w6 g s a' l' c' v 0 0 0 := (hS5.alloc _).grown hgrow ng
        have hB6 : Below g w4 w6 := Below.grown (hB5.alloc hw5 _) hgrow (by simp; omega) (own_base hO5)
        refine hK.out _ _ ⟨hS6, ((blk_cell hS6 4).trans rfl)⟩ (fun hHeld => ?_)
        clear hK K
        refine norm_ (a' := ?_) ?_ ?_
        rotate_left
        · show Act.put _ (some 32) _ = _
          simp only [Act.put, List.setIfInBounds_toArray, List.set_cons_zero, List.set_cons_succ, i64_w, i32_w]
          rfl
        refine pure_ (i := 9) (N := some 2) (v := ?_) (a' := ?_) #[true, true, true, true, true, true, true, true, true, true, false] rfl rfl (by kernel_rfl) (fun _ _ _ h => h) (Or.inl ⟨by rfl, ?_⟩) ?_ ?_
        rotate_left
        · intro w'
          go_simp
          with_reducible rfl
        rotate_left
        · simp only [Act.put, List.setIfInBounds_toArray, List.set_cons_zero, List.set_cons_succ, i64_w, i32_w]
          rfl
        refine last_ (i := 10) (N := none) #[true, true, true, true, true, true, true, true, true, true, true] rfl rfl (by kernel_rfl) (by decide) (fun K hK => ?_)
        have hw6 := hB6.cell (p := ⟨q, 0, none⟩) hqb
        have y0 : w6.cell? ⟨q, 0, none⟩ = some (.int .i64 0) := hw6.trans yq0
        have y1 : w6.cell? ⟨q, 1, none⟩ = some (.int .i64 0) := (hB6.cell (p := ⟨q, 1, none⟩) hqb).trans yq1
        have y2 : w6.cell? ⟨q, 2, none⟩ = some (.int .i64 0) := (hB6.cell (p := ⟨q, 2, none⟩) hqb).trans yq2
        have z0 : w6.frozen? ⟨q, 0, none⟩ = false := (hB6.frozen (p := ⟨q, 0, none⟩) hqb).trans zq0
        have z1 : w6.frozen? ⟨q, 1, none⟩ = false := (hB6.frozen (p := ⟨q, 1, none⟩) hqb).trans zq1
        have z2 : w6.frozen? ⟨q, 2, none⟩ = false := (hB6.frozen (p := ⟨q, 2, none⟩) hqb).trans zq2
        refine skip_ (w1 := ?_) (by rfl) rfl ?_ ?_
        rotate_left
        · go_simp
          rfl
        refine hK.out _ _ ?_
        clear hK K
        refine done_ (by kernel_rfl) ?_
        go_wp2_with fail
        have RR : Aside0 (Lx.scan s.data.toList = .ok (toks ++ [⟨4, [], (l', c')⟩])) := ⟨by
          rw [← LK.out.2, suf_nil hle']
          simp [Lx.scanF, Lx.skip]⟩
        rw [RR.out]
        have hq6 := (hB6.block q hqg).trans HQ4.out
        have hge : g ≤ gg := own_base hown6 gg rfl
        refine bodyPost_ret (results_tc (ty := 27) (u := 2) (p := 3) rfl _ _ q 27 #[.int .i64 0, .int .i64 0, .int .i64 0] (0, 0) _ rfl ?_ Try.underlying27 rfl infoFlt) rfl ⟨_, rfl, ?_, ?_⟩
        · exact blk_drew (flt_store hq6 _ _ _)
        · have hq0 := EQ.out
          have hne : some q ≠ (.slice (some ⟨gg, 0, none⟩) (toks.length + 1) cap : Value).ownBlock := by
            simp [Value.ownBlock]; omega
          have h3 := own_setCell (p := ⟨q, 2, none⟩) (own_setCell (p := ⟨q, 1, none⟩) (own_setCell (p := ⟨q, 0, none⟩) hown6 hne (.int .i64 0)) hne (.int .i64 0)) hne (.int .i64 0)
          have e : (toks ++ [(⟨4, [], (l', c')⟩ : Lx.Tok)]).flatMap tokCells = toks.flatMap tokCells ++ [.int .i64 4, .string ⟨#[]⟩, .int .i64 l', .int .i64 c'] := by
            rw [List.flatMap_append]; simp [tokCells]
          rw [e, List.length_append]
          exact own_weaken h3 (by omega)
        · have hq0 := EQ.out
          refine below_set3 ?_ (Nat.le_of_eq hq0) _ _ _
          exact (Below.mono HB0.out (by omega)).trans ((LB4.out.trans hB6).mono (by omega))
end Go.Proofs.Ytohbjgckcbdegaa.Lw
