/- The reference's parser: alt. -/
import Derived.Test.YtgllncnfhiiobaaRefD
set_option linter.unusedVariables false
set_option linter.unusedSimpArgs false
namespace Go.Proofs.Ytgllncnfhiiobaa.Rw
open Go.RowKit Go.Proofs.YtgllncnfhiiobaaW.PrintWords Go.Proofs.YtgllncnfhiiobaaW.PrintLast Go.Proofs.YtgllncnfhiiobaaW.PrintMore Go.Proofs.Ytgllncnfhiiobaa Go.Proofs.Ytgllncnfhiiobaa.P Go.Proofs.Ytgllncnfhiiobaa.Lw Go.Proofs.Ytgllncnfhiiobaa.Sw

/-- Between two rows. -/
def AltRR (w : World) (g : Nat) (A : Option Addr) (c : Nat) (ts : List S102) (b : Nat) (Alt : RS → Option (S78 × RS)) (m n : Nat) (r : List S78 × RS) (k : Nat) (wr : World) : Prop :=
  ∃ s1 acc v, RE wr g A c ts s1 ∧ w.grownBy wr (some g) ∧ wr.heap[w.heap.size]? = some (nodeBox 0 ⟨#[]⟩ (.slice none 0 0)) ∧ wr.heap[b]? = some (nodeBox 4 ⟨#[]⟩ v) ∧
    k78.R 78 wr (w.heap.size + 1) (fun k => k ≠ b) v acc ∧ altLR Alt ts m k s1 acc = some r ∧ acc.length + k ≤ n + 1
section
variable {w w' : World} {g : Nat} {A : Option Addr} {c : Nat} {ts : List S102} {s : RS} {t : S102}
set_option maxHeartbeats 8000000 in
set_option maxRecDepth 100000 in
theorem alt_go {Alt : RS → Option (S78 × RS)} (HA : AltCR g A c ts Alt) (h : RE w g A c ts s) {m n : Nat} (hm : m ≤ 1000000) (hn : n + 1 ≤ 1000000) {r1 r : List S78 × RS} (h1 : rowR Alt ts m s [] = some r1) (h2 : altLR Alt ts m n r1.2 [oneR 3 r1.1] = some r) :
    Calls Try.prog 26 #[.pointer (some ⟨g, 0, none⟩)] w (RPost w g A c ts (oneR 4 r.1, r.2)) := by
  have HP := Aside0.mk h
  have HAA := Aside0.mk HA
  have HM := Aside0.mk hm
  have HN := Aside0.mk hn
  have HR1 := Aside0.mk h1
  have HR2 := Aside0.mk h2
  have hne := h.ne_new
  have hgl := Aside0.mk h.lt
  clear h HA hm hn h1 h2
  go_enter Try.func26, Try.ntmps26
  go_wp2_with (fail)
  refine (row_calls HAA.out (HP.out.grown (grown_alloc (grown_refl _ _) (nodeBox 0 ⟨#[]⟩ (.slice none 0 0)))) HM.out HR1.out).mono ?_
  rintro e w3 ⟨hg, hp3, v, rfl, hv⟩
  obtain ⟨A1, c1, rfl⟩ := Kd.R_slice hv
  have HG3 := Aside0.mk ((grown_alloc (grown_refl w (some g)) (nodeBox 0 ⟨#[]⟩ (.slice none 0 0))).trans hg)
  have HP3 := Aside0.mk hp3
  have HV := Aside0.mk hv
  have HZ3 := Aside0.mk (blk_kept (blk_new w (nodeBox 0 ⟨#[]⟩ (.slice none 0 0))) hg (Ne.symm hne))
  clear hg hp3 hv
  go_wp2_with (fail)
  have HROW : Aside0 (k78.R 78 ((w3.alloc (nodeBox (oneR 3 r1.1).f0 (oneR 3 r1.1).f1 (.slice A1 (oneR 3 r1.1).f2.length c1))).alloc (nodeBox 4 ⟨#[]⟩ (.slice (some ⟨w3.heap.size, 0, none⟩) 1 1))) (w.heap.size + 1) (fun k => k ≠ w3.heap.size + 1) (.slice (some ⟨w3.heap.size, 0, none⟩) 1 1) [oneR 3 r1.1]) :=
    ⟨Kd.R_alloc (R_oneK (ok' := fun k => k ≠ w3.heap.size + 1) (Kd.R_lower HV.out (by simp)) (by have := blk_lt HZ3.out; omega) (fun k _ hk => by omega) (by omega)) _⟩
  have HP4 := Aside0.mk (HP3.out.grown (grown_alloc (grown_alloc (grown_refl w3 none) (nodeBox (oneR 3 r1.1).f0 (oneR 3 r1.1).f1 (.slice A1 (oneR 3 r1.1).f2.length c1))) (nodeBox 4 ⟨#[]⟩ (.slice (some ⟨w3.heap.size, 0, none⟩) 1 1))))
  have HG4 := Aside0.mk (grown_alloc (grown_alloc HG3.out (nodeBox (oneR 3 r1.1).f0 (oneR 3 r1.1).f1 (.slice A1 (oneR 3 r1.1).f2.length c1))) (nodeBox 4 ⟨#[]⟩ (.slice (some ⟨w3.heap.size, 0, none⟩) 1 1)))
  have HZ4 := Aside0.mk (blk_alloc (blk_alloc HZ3.out (nodeBox (oneR 3 r1.1).f0 (oneR 3 r1.1).f1 (.slice A1 (oneR 3 r1.1).f2.length c1))) (nodeBox 4 ⟨#[]⟩ (.slice (some ⟨w3.heap.size, 0, none⟩) 1 1)))
  have HB4 : Aside0 (((w3.alloc (nodeBox (oneR 3 r1.1).f0 (oneR 3 r1.1).f1 (.slice A1 (oneR 3 r1.1).f2.length c1))).alloc (nodeBox 4 ⟨#[]⟩ (.slice (some ⟨w3.heap.size, 0, none⟩) 1 1))).heap[w3.heap.size + 1]? = some (nodeBox 4 ⟨#[]⟩ (.slice (some ⟨w3.heap.size, 0, none⟩) 1 1))) :=
    ⟨by have := blk_new (w3.alloc (nodeBox (oneR 3 r1.1).f0 (oneR 3 r1.1).f1 (.slice A1 (oneR 3 r1.1).f2.length c1))) (nodeBox 4 ⟨#[]⟩ (.slice (some ⟨w3.heap.size, 0, none⟩) 1 1)); rwa [World.size_alloc] at this⟩
  have HBL := Aside0.mk (blk_lt HZ3.out)
  have hgb : g ≠ w3.heap.size + 1 := by have := hgl.out; have := HBL.out; omega
  go_loopg [] n (fun k wr => AltRR w g A c ts (w3.heap.size + 1) Alt m n r k wr)
  case atStart => exact ⟨_, [oneR 3 r1.1], _, HP4.out, HG4.out, HZ4.out, HB4.out, HROW.out, HR2.out, by simp; omega⟩
  case round =>
    obtain ⟨s1, acc, v, hp, hg, hz, hb, hv, hrow, hal⟩ := hrel
    cases gk with
    | zero => exact absurd hrow (by simp [altLR])
    | succ n' =>
      unfold altLR at hrow
      split at hrow
      · cases hrow
      rename_i t ht
      obtain ⟨A5, c5, rfl⟩ := Kd.R_slice hv
      have KP := Aside0.mk hp
      have KG := Aside0.mk hg
      have KV := Aside0.mk hv
      have KZ := Aside0.mk hz
      have KB := Aside0.mk hb
      have HT := Aside0.mk ht
      have HAL := Aside0.mk hal
      clear hp hg hz hv hb hal ht
      cases hs : isT t s1 ⟨#[124]⟩
      · rw [hs] at hrow
        cases hrow
        go_wp2_with (fail)
        refine (is_calls KP.out HT.out _).mono ?_
        rintro e w5 ⟨rfl, hg, hp5⟩
        rw [hs]
        clear hs
        have HG5 := Aside0.mk (KG.out.trans hg)
        have HP5 := Aside0.mk hp5
        have HV5 := Aside0.mk (Kd.R_grown (Kd.R_bound KV.out) hg (fun k hk e => by have e := Option.some.inj e; have := hk.2.1; have := hgl.out; omega))
        have hz5 := blk_kept KZ.out hg (Ne.symm hne)
        have hb5 := blk_kept KB.out hg (Ne.symm hgb)
        have HZ5 := Aside0.mk hz5
        have q0 := cellAt hz5 0 rfl
        have q1 := cellAt hz5 1 rfl
        have q2 := cellAt hz5 2 rfl
        have y0 := blk_frozen hz5 0
        have y1 := blk_frozen hz5 1
        have y2 := blk_frozen hz5 2
        have p0 := cellAt hb5 0 rfl
        have p1 := cellAt hb5 1 rfl
        have p2 := cellAt hb5 2 rfl
        clear hg hz5 hb5 hp5
        by_cases hacc : acc.length = 1
        · obtain ⟨x, rfl⟩ := List.length_eq_one_iff.1 hacc
          obtain ⟨q, cap, A2, c2, hv, hx0, hx1, hx2, hR, hb, hl⟩ := row_one HV5.out
          cases hv
          have HRX := Aside0.mk hR
          clear hR hacc
          go_wp2
          have HGF := grown_set3 HG5.out (Nat.le_refl w.heap.size) (.int .i64 x.f0) (.string x.f1) (.slice A2 x.f2.length c2)
          refine bodyPost_ret (results_cell_row (ty := 78) (p := 2) rfl _ _ w.heap.size 78 #[.int .i64 x.f0, .string x.f1, .slice A2 x.f2.length c2] (0, 0) _ rfl ?_ Try.underlying78 rfl infoNode) rfl ⟨HGF, HP.out.step HGF ?_, _, rfl, ?_⟩
          · exact node_store HZ5.out _ _ _
          · exact blk_far3 HP5.out.blk hne _ _ _
          · exact Kd.R_mono (Kd.R_lower (R_far3 (Kd.R_bound HRX.out) (fun k hk e => by have := hk.2.1; omega) _ _ _) (Nat.le_succ _)) (fun _ _ => trivial)
        · have b1 : ((acc.length : Int) == 1) = false := beq_eq_false_iff_ne.mpr (by omega)
          have HN1 := Aside0.mk hacc
          clear hacc
          go_wp2
          have HGF := grown_set3 HG5.out (Nat.le_refl w.heap.size) (.int .i64 4) (.string ⟨#[]⟩) (.slice A5 acc.length c5)
          rw [oneR_many HN1.out]
          refine bodyPost_ret (results_cell_row (ty := 78) (p := 2) rfl _ _ w.heap.size 78 #[.int .i64 4, .string ⟨#[]⟩, .slice A5 acc.length c5] (0, 0) _ rfl ?_ Try.underlying78 rfl infoNode) rfl ⟨HGF, HP.out.step HGF ?_, _, rfl, ?_⟩
          · exact node_store HZ5.out _ _ _
          · exact blk_far3 HP5.out.blk hne _ _ _
          · exact Kd.R_mono (Kd.R_lower (R_far3 (Kd.R_bound HV5.out) (fun k hk e => by have := hk.2.1; omega) _ _ _) (Nat.le_succ _)) (fun _ _ => trivial)
      · rw [hs] at hrow
        obtain ⟨q, hq, hk⟩ := Option.bind_eq_some_iff.1 hrow
        have HX2 := Aside0.mk hq
        have HKK := Aside0.mk hk
        clear hrow hq hk
        go_wp2_with (fail)
        refine (is_calls KP.out HT.out _).mono ?_
        rintro e w5 ⟨rfl, hg, hp5⟩
        rw [hs]
        clear hs
        have HMS := Aside0.mk (hp5.small (t := t) (by rw [lookT_at]; exact HT.out))
        have G5 := Aside0.mk (grown_drew (grown_set (KG.out.trans hg) 1 (.int .i64 (wrap64 (((lookT t s1).at_ : Int) + 1)))))
        have P5 := Aside0.mk ((hp5.nextW HMS.out).grown (grown_drew (grown_refl _ _)))
        have V5 := Aside0.mk (Kd.R_mono (Kd.R_grown (Kd.R_bound KV.out) (grown_drew (grown_set hg 1 (.int .i64 (wrap64 (((lookT t s1).at_ : Int) + 1))))) (fun k hk e => by have e := Option.some.inj e; have := hk.2.1; have := hgl.out; omega)) (fun k hk => (hk.1 : k ≠ w3.heap.size + 1)))
        have Z5 := Aside0.mk (blk_kept KZ.out (grown_drew (grown_set hg 1 (.int .i64 (wrap64 (((lookT t s1).at_ : Int) + 1))))) (Ne.symm hne))
        have B5 := Aside0.mk (blk_kept KB.out (grown_drew (grown_set hg 1 (.int .i64 (wrap64 (((lookT t s1).at_ : Int) + 1))))) (Ne.symm hgb))
        have h1 := cellAt hp5.blk 1 rfl
        have z1 := blk_frozen hp5.blk 1
        have h2 := cellAt B5.out 2 rfl
        have hsz : ((w5.setCell ⟨g, 1, none⟩ (.int .i64 (wrap64 (((lookT t s1).at_ : Int) + 1)))).drew).heap.size = w5.heap.size := by simp [World.setCell, World.drew]
        have HSZ := Aside0.mk hsz
        clear hg hp5 hsz
        go_wp2_with (fail)
        refine start_ (n := 8) (S := fun w' => w'.cell? ⟨w3.heap.size + 1, 2, none⟩ = some (.slice A5 acc.length c5)) (ds := [5, 7]) #[false, false, false, false, false, false, false, false] (by kernel_rfl) rfl rfl (h2) (fun hHeld => ?_)
        refine pure_ (i := 0) (N := some 17) (v := ?_) (a' := ?_) #[true, false, false, false, false, false, false, false] rfl rfl (by kernel_rfl) (fun _ _ _ h => h) (Or.inl ⟨by rfl, ?_⟩) ?_ ?_
        rotate_left
        · intro w'
          go_simp
          with_reducible rfl
        rotate_left
        · simp only [Act.put, List.setIfInBounds_toArray, List.set_cons_zero, List.set_cons_succ, i64_w, i32_w]
          rfl
        refine pure_ (i := 2) (N := some 19) (v := ?_) (a' := ?_) #[true, false, true, false, false, false, false, false] rfl rfl (by kernel_rfl) (fun _ _ _ h => h) (Or.inl ⟨by rfl, ?_⟩) ?_ ?_
        rotate_left
        · intro w'
          go_simp
          with_reducible rfl
        rotate_left
        · simp only [Act.put, List.setIfInBounds_toArray, List.set_cons_zero, List.set_cons_succ, i64_w, i32_w]
          rfl
        refine take_ (i := 1) (N := some 18) (v := ?_) (a' := ?_) #[true, true, true, false, false, false, false, false] rfl rfl (by kernel_rfl) (fun _ _ _ h => h) (Or.inl ⟨by rfl, ?_⟩) hHeld ?_ ?_
        rotate_left
        · intro w' s0
          go_simp
          with_reducible rfl
        rotate_left
        · simp only [Act.put, List.setIfInBounds_toArray, List.set_cons_zero, List.set_cons_succ, i64_w, i32_w]
          rfl
        refine one_ (i := 3) (N := some 20) #[true, true, true, true, false, false, false, false] rfl rfl (by kernel_rfl) (by decide) (fun K hK => ?_)
        refine goes_ Try.func53 (by kernel_rfl) rfl #[.pointer (some ⟨g, 0, none⟩)] (by rfl) rfl rfl (by simp only [List.map_toArray, List.map_cons, List.map_nil]; rfl) ?_
        with_reducible refine (row_calls HAA.out P5.out HM.out HX2.out).mono ?_
        rintro e w6 ⟨hg, hp6, v6, rfl, hv6⟩
        refine ⟨_, rfl, ?_⟩
        obtain ⟨A6, c6, rfl⟩ := Kd.R_slice hv6
        have P6 := Aside0.mk hp6
        have G6 := Aside0.mk (G5.out.trans hg)
        have V6 := Aside0.mk (Kd.R_mono (Kd.R_grown (Kd.R_bound V5.out) hg (fun k hk e => by have e := Option.some.inj e; have := hk.2.1; have := hgl.out; omega)) (fun k hk => (hk.1 : k ≠ w3.heap.size + 1)))
        have Z6 := Aside0.mk (blk_kept Z5.out hg (Ne.symm hne))
        have B6 := Aside0.mk (blk_kept B5.out hg (Ne.symm hgb))
        rw [HSZ.out] at hv6
        have L5 := Aside0.mk (show w3.heap.size + 1 < w5.heap.size from by have := blk_lt B5.out; rwa [HSZ.out] at this)
        have HM_ := Aside0.mk (k78_mkM w6 (w.heap.size + 1) (fun k => w5.heap.size ≤ k) (oneR 3 q.1) (Kd.R_lower (Kd.R_mono (Kd.R_bound hv6) (fun k hk => hk.2.1)) (by have := L5.out; have := HBL.out; omega)))
        have HLV := Aside0.mk (fun k hk => Kd.R_lt V5.out k hk : ∀ k, (Value.slice A5 acc.length c5).ownBlock = some k → k < _)
        have HF_ : Aside0 (∀ k, w5.heap.size ≤ k → k ≠ w3.heap.size + 1 ∧ some k ≠ (Value.slice A5 acc.length c5).ownBlock) := ⟨fun k hk => ⟨by have := L5.out; omega, fun e => by have h := HLV.out k e.symm; rw [HSZ.out] at h; omega⟩⟩
        have HBS := Aside0.mk (show w.heap.size + 1 ≤ w6.heap.size from by have := blk_lt Z6.out; omega)
        have HL2 := Aside0.mk (show acc.length + 1 ≤ 1000000 from by have := HAL.out; have := HN.out; omega)
        clear hg hp6 hv6 h1 z1 h2
        refine hK.out _ _ (cellAt B6.out 2 rfl) (fun hHeld => ?_)
        clear hK K
        refine norm_ (a' := ?_) ?_ ?_
        rotate_left
        · show Act.put _ (some 20) _ = _
          simp only [Act.put, List.setIfInBounds_toArray, List.set_cons_zero, List.set_cons_succ, i64_w, i32_w]
          rfl
        refine one_ (i := 4) (N := some 21) #[true, true, true, true, true, false, false, false] rfl rfl (by kernel_rfl) (by decide) (fun K hK => ?_)
        refine value_ (w1 := ?_) (v := ?_) (by rfl) rfl ?_ ?_
        rotate_left 2
        · go_simp
          constructor
          · rfl
          · rfl
        refine hK.out _ _ (cellAt (blk_alloc B6.out _) 2 rfl) (fun hHeld => ?_)
        clear hK K
        refine norm_ (a' := ?_) ?_ ?_
        rotate_left
        · show Act.put _ (some 21) _ = _
          simp only [Act.put, List.setIfInBounds_toArray, List.set_cons_zero, List.set_cons_succ, i64_w, i32_w]
          rfl
        refine last_ (i := 5) (N := some 22) #[true, true, true, true, true, true, false, false] rfl rfl (by kernel_rfl) (by decide) (fun K hK => ?_)
        refine Kd.R_append_step k78 (w0 := w6) (w.heap.size + 1) (by rfl) (.tmp 18) (.tmp 21) 76 78 (.agg #[(.int .i64 0), (.string ⟨#[]⟩), (.slice none 0 0)]) 48 rfl Try.underlying76 infoNodes rfl (by decide) (by decide) (.slice A5 acc.length c5) acc (oneR 3 q.1) [.int .i64 (oneR 3 q.1).f0, .string (oneR 3 q.1).f1, .slice A6 (oneR 3 q.1).f2.length c6] (fun k => k ≠ w3.heap.size + 1) (fun k => w5.heap.size ≤ k) rfl rfl HM_.out HF_.out (fun k hk => by have := blk_lt B6.out; omega) V6.out (Below.refl _ _) HBS.out (by have := HL2.out; omega) ?_
        intro v1 w7 hO hB hG hat
        obtain ⟨A7, c7, rfl⟩ := Kd.R_slice hO
        have O7 := Aside0.mk hO
        have hbb := Aside0.mk (fun k hk => Kd.R_base V6.out k hk : ∀ k, (Value.slice A5 acc.length c5).ownBlock = some k → w.heap.size + 1 ≤ k)
        have hbo := Aside0.mk (fun k hk => V6.out.1 k hk : ∀ k, (Value.slice A5 acc.length c5).ownBlock = some k → k ≠ w3.heap.size + 1)
        have G7 := Aside0.mk (grown_newer G6.out hG (fun k hk => by have := hbb.out k hk; omega))
        have B7 := Aside0.mk (blk_grown B6.out hG (fun e => hbo.out _ e.symm rfl))
        have Z7 := Aside0.mk (blk_grown Z6.out hG (fun e => by have := hbb.out _ e.symm; omega))
        have P7 := Aside0.mk (blk_grown P6.out.blk hG (fun e => by have := hbb.out _ e.symm; have := hgl.out; omega))
        have m2 := cellAt B7.out 2 rfl
        have y2 := blk_frozen B7.out 2
        clear hO hB hG hat
        refine hK.out _ _ ?_
        clear hK K
        refine norm_ (a' := ?_) ?_ ?_
        rotate_left
        · show Act.put _ (some 22) _ = _
          simp only [Act.put, List.setIfInBounds_toArray, List.set_cons_zero, List.set_cons_succ, i64_w, i32_w]
          rfl
        refine pure_ (i := 6) (N := some 23) (v := ?_) (a' := ?_) #[true, true, true, true, true, true, true, false] rfl rfl (by kernel_rfl) (fun _ _ _ h => h) (Or.inl ⟨by rfl, ?_⟩) ?_ ?_
        rotate_left
        · intro w'
          go_simp
          with_reducible rfl
        rotate_left
        · simp only [Act.put, List.setIfInBounds_toArray, List.set_cons_zero, List.set_cons_succ, i64_w, i32_w]
          rfl
        refine last_ (i := 7) (N := none) #[true, true, true, true, true, true, true, true] rfl rfl (by kernel_rfl) (by decide) (fun K hK => ?_)
        refine skip_ (w1 := ?_) (by rfl) rfl ?_ ?_
        rotate_left
        · go_simp
          rfl
        refine hK.out _ _ ?_
        clear hK K
        refine done_ (by kernel_rfl) ?_
        clear hHeld
        go_wp2
        go_roundg n'
        case measure => omega
        case rel =>
          have GF2 := grown_setNew (p := ⟨w3.heap.size + 1, 2, none⟩) G7.out (show w.heap.size ≤ w3.heap.size + 1 by have := HBL.out; omega) (.slice A7 (acc ++ [oneR 3 q.1]).length c7)
          have e1 : (acc ++ [oneR 3 q.1]).length = acc.length + 1 := by simp
          rw [← e1]
          refine ⟨q.2, acc ++ [oneR 3 q.1], .slice A7 (acc ++ [oneR 3 q.1]).length c7, HP.out.step GF2 ?_, GF2, ?_, ?_, ?_, HKK.out, ?_⟩
          · exact blk_far P7.out (p := ⟨w3.heap.size + 1, 2, none⟩) hgb _
          · exact blk_far Z7.out (p := ⟨w3.heap.size + 1, 2, none⟩) (by show w.heap.size ≠ w3.heap.size + 1; have := HBL.out; omega) _
          · have := blk_set B7.out 2 (.slice A7 (acc ++ [oneR 3 q.1]).length c7)
            simpa using this
          · exact Kd.R_far (p := ⟨w3.heap.size + 1, 2, none⟩) O7.out (fun k hk e => hk e) _
          · have := HAL.out
            simp
            omega
theorem alt_calls : ∀ n, n ≤ 999999 → AltCR g A c ts (altR ts n)
  | 0, _, _, _, _, _, h => by simp [altR] at h
  | n + 1, hn, w, s, r, hp, h => by
    obtain ⟨r1, h1, h2⟩ := Option.bind_eq_some_iff.1 (show Option.bind _ _ = some r from h)
    obtain ⟨q, hq, rfl⟩ := Option.map_eq_some_iff.1 h2
    exact alt_go (alt_calls n (by omega)) hp (by omega) (by omega) h1 hq
end
end Go.Proofs.Ytgllncnfhiiobaa.Rw
