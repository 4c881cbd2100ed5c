/- Table: its walk. -/
import Derived.Test.YtdbkooliafkcgaaSymE
set_option linter.unusedVariables false
set_option linter.unusedSimpArgs false
namespace Go.Proofs.Ytdbkooliafkcgaa.Yw
open Go.RowKit Go.Maps Go.Proofs.YtdbkooliafkcgaaW.PrintWords Go.Proofs.YtdbkooliafkcgaaW.PrintLast Go.Proofs.YtdbkooliafkcgaaW.PrintMore Go.Proofs.Ytdbkooliafkcgaa Go.Proofs.Ytdbkooliafkcgaa.P Go.Proofs.Ytdbkooliafkcgaa.Lw Go.Proofs.Ytdbkooliafkcgaa.Sw

/-- Each place is one of the table. -/
def AtOk (p : FM × List S45) : Prop := ∀ s c, p.1 s = some c → 0 ≤ c ∧ c < (p.2.length : Int)
theorem tabAdd_length (first : FM) (p : FM × List S45) (n : ByteArray) : p.2.length ≤ (tabAdd first p n).2.length ∧ (tabAdd first p n).2.length ≤ p.2.length + 1 := by
  unfold tabAdd
  split
  · omega
  · simp
theorem tabUse_length (first : FM) (p : FM × List S45) (n : ByteArray) : (tabUse first p n).2.length ≤ p.2.length + 1 := by
  unfold tabUse bump
  simp only [List.length_set]
  exact (tabAdd_length first p n).2
theorem tabAdd_ok {first : FM} {p : FM × List S45} (h : AtOk p) (n : ByteArray) : AtOk (tabAdd first p n) ∧ 0 ≤ tabIdx first p n ∧ tabIdx first p n < ((tabAdd first p n).2.length : Int) := by
  unfold tabIdx tabAdd
  split
  · rename_i hs
    obtain ⟨c, hc⟩ := Option.isSome_iff_exists.1 hs
    refine ⟨h, ?_⟩
    rw [hc]
    exact h _ c hc
  · refine ⟨fun s c hc => ?_, ?_⟩
    · unfold upd at hc
      simp only at hc
      split at hc
      · cases hc
        simp only [List.length_append, List.length_singleton]
        omega
      · have := h s c hc
        simp only [List.length_append, List.length_singleton]
        omega
    · simp only [upd, if_true, Option.getD_some, List.length_append, List.length_singleton]
      omega
theorem tabUse_ok {first : FM} {p : FM × List S45} (h : AtOk p) (n : ByteArray) : AtOk (tabUse first p n) := by
  intro s c hc
  have := (tabAdd_ok (first := first) h n).1 s c hc
  unfold tabUse bump
  simpa using this
theorem tabDefs_ok (first : FM) (rs : List S50) : ∀ i, AtOk (tabDefs first rs i) ∧ (tabDefs first rs i).2.length ≤ i
  | 0 => ⟨fun s c h => (by cases h), Nat.le_refl _⟩
  | i + 1 => by
    have ih := tabDefs_ok first rs i
    have := tabAdd_length first (tabDefs first rs i) (rd_T50 rs (i : Int)).f0
    exact ⟨(tabAdd_ok ih.1 _).1, by unfold tabDefs; omega⟩
theorem uses_ok (first : FM) : ∀ (l : List ByteArray) (p : FM × List S45), AtOk p → AtOk (l.foldl (tabUse first) p) ∧ (l.foldl (tabUse first) p).2.length ≤ p.2.length + l.length
  | [], p, h => ⟨h, by simp⟩
  | n :: l, p, h => by
    have := uses_ok first l (tabUse first p n) (tabUse_ok h n)
    have h2 := tabUse_length first p n
    simp only [List.foldl_cons, List.length_cons]
    exact ⟨this.1, by omega⟩
theorem tabRefs_ok (first : FM) (rs : List S50) (h : ∀ x ∈ rs, (refsN x.f1).length ≤ 1000000) : ∀ i, i ≤ rs.length → AtOk (tabRefs first rs i) ∧ (tabRefs first rs i).2.length ≤ rs.length + i * 1000000
  | 0, _ => by
    have := tabDefs_ok first rs rs.length
    exact ⟨this.1, by unfold tabRefs; omega⟩
  | i + 1, hi => by
    have ih := tabRefs_ok first rs h i (by omega)
    have e : rd_T50 rs (i : Int) = rs[i] := by simp [rd_T50, show i < rs.length by omega]
    have h1 := h _ (List.getElem_mem (show i < rs.length by omega))
    have := uses_ok first (refsN rs[i].f1) (tabRefs first rs i) ih.1
    unfold tabRefs
    rw [e]
    exact ⟨this.1, by omega⟩
section
variable {W W' : World} {G L ob ab am fb fm nf : Nat} {ok : Nat → Prop} {first at_ : FM} {v : Value} {syms : List S45}
theorem TabS.alloc (h : TabS W G L ob ab am fb fm ok nf first v at_ syms) (o : Obj) : TabS (W.alloc o) G L ob ab am fb fm ok nf first v at_ syms :=
  ⟨blk_alloc h.out o, Kd.R_alloc h.rows o, blk_alloc h.abox o, h.amap.kept (World.grownBy_alloc W o none) (by simp), blk_alloc h.fbox o, h.fmap.kept (World.grownBy_alloc W o none) (by simp), by have := h.le; simp; omega, h.ne⟩
theorem TabS.below (h : TabS W G L ob ab am fb fm ok nf first v at_ syms) (hB : Below W.heap.size W W') : TabS W' G L ob ab am fb fm ok nf first v at_ syms :=
  ⟨blk_below h.out hB, Kd.R_below h.rows hB, blk_below h.abox hB, h.amap.below hB h.amap.lt, blk_below h.fbox hB, h.fmap.below hB h.fmap.lt, by have := h.le; have := hB.size; omega, h.ne⟩
theorem TabS.okay {ok' : Nat → Prop} (h : TabS W G L ob ab am fb fm ok nf first v at_ syms) (ho : ∀ k, ok k → L ≤ k → k < W.heap.size → ok' k) : TabS W G L ob ab am fb fm ok' nf first v at_ syms :=
  ⟨h.out, Kd.R_mono (Kd.R_bound h.rows) (fun k hk => ho k hk.1 hk.2.1 hk.2.2.1), h.abox, h.amap, h.fbox, h.fmap, h.le, h.ne⟩
end
section
set_option maxHeartbeats 8000000 in
set_option maxRecDepth 100000 in
theorem table_calls (st : ByteArray) (A : Option Addr) (c : Nat) (rs : List S50) (w : World) (hg : okG st rs = true) (hA : k50.C w A rs.length rs) :
    Calls Try.prog 11 #[.agg #[.string st, .slice A rs.length c]] w fun e w' => ∃ v, e = .returned v ∧ k45.R 45 w' w.heap.size (fun _ => True) v (tableF rs) ∧ Below w.heap.size w w' := by
  obtain ⟨hst, hlen, hall⟩ := okG_parts hg
  have hmm := @run_makeMap Try.prog
  have hmf : ∀ (fn : Fn) (first cap : Array Value) (w : World), (Instr.makeFunc fn first cap).run Try.prog w = .ok (.func fn first cap) w := fun _ _ _ _ => rfl
  have HA := Aside0.mk hA
  have HLN := Aside0.mk hlen
  have HALL := Aside0.mk hall
  have HUP := Aside0.mk (tabRefs_ok (firstsF rs) rs (fun x hx => (hall x hx).2.2))
  clear hg hA hst hlen hall
  go_enter Try.func11, Try.ntmps11
  go_wp2_with (fail)
  have BX := blk_alloc (blk_alloc (blk_alloc (blk_new w (.cells #[.string st, .slice A rs.length c] 25)) (.cells #[.slice none 0 0] 42)) (.map #[] 0)) (.cells #[.map (some (w.heap.size + 1 + 1))] 60)
  have OB := blk_alloc (blk_alloc (blk_new (w.alloc (.cells #[.string st, .slice A rs.length c] 25)) (.cells #[.slice none 0 0] 42)) (.map #[] 0)) (.cells #[.map (some (w.heap.size + 1 + 1))] 60)
  have MA := (MapI.made ((w.alloc (.cells #[.string st, .slice A rs.length c] 25)).alloc (.cells #[.slice none 0 0] 42))).kept (World.grownBy_alloc _ (.cells #[.map (some (w.heap.size + 1 + 1))] 60) none) (by simp)
  have AB := blk_new (((w.alloc (.cells #[.string st, .slice A rs.length c] 25)).alloc (.cells #[.slice none 0 0] 42)).alloc (.map #[] 0)) (.cells #[.map (some (w.heap.size + 1 + 1))] 60)
  have BL : Below w.heap.size w ((((w.alloc (.cells #[.string st, .slice A rs.length c] 25)).alloc (.cells #[.slice none 0 0] 42)).alloc (.map #[] 0)).alloc (.cells #[.map (some (w.heap.size + 1 + 1))] 60)) := ((((Below.refl _ w).alloc (Nat.le_refl _) _).alloc (by simp) _).alloc (by simp; omega) _).alloc (by simp; omega) _
  have SZ : ((((w.alloc (.cells #[.string st, .slice A rs.length c] 25)).alloc (.cells #[.slice none 0 0] 42)).alloc (.map #[] 0)).alloc (.cells #[.map (some (w.heap.size + 1 + 1))] 60)).heap.size = w.heap.size + 4 := by simp
  simp only [World.size_alloc] at OB MA AB
  generalize ((((w.alloc (.cells #[.string st, .slice A rs.length c] 25)).alloc (.cells #[.slice none 0 0] 42)).alloc (.map #[] 0)).alloc (.cells #[.map (some (w.heap.size + 1 + 1))] 60)) = W1 at BX OB MA AB BL SZ ⊢
  refine (firsts_calls st A c rs _ (Kd.C_below HA.out BL) HLN.out (fun x hx => (HALL.out x hx).1)).mono ?_
  rintro e w2 ⟨b, rfl, hb, hm, hB⟩
  have hs2 := hB.size
  have T0 : Aside0 (TabS (w2.alloc (.cells #[.map (some b)] 60)) (w.heap.size + 1) (w2.heap.size + 1) (w.heap.size + 1) (w.heap.size + 1 + 1 + 1) (w.heap.size + 1 + 1) w2.heap.size b (fun _ => True) rs.length (firstsF rs) (.slice none 0 0) (fun _ => none) []) :=
    ⟨⟨blk_alloc (blk_below OB hB) _, Kd.R_nil _ _ _ _ _, blk_alloc (blk_below AB hB) _, (MA.below hB MA.lt).kept (World.grownBy_alloc _ _ none) (by simp), blk_new _ _, hm.kept (World.grownBy_alloc _ _ none) (by simp), by have := hm.lt; simp; omega, by have := hm.lt; omega⟩⟩
  have BX2 := Aside0.mk (blk_alloc (blk_below BX hB) (.cells #[.map (some b)] 60))
  have B2 := Aside0.mk ((BL.trans (hB.mono (by omega))).alloc (by omega) (.cells #[.map (some b)] 60))
  have HLT2 := Aside0.mk (show w.heap.size + 4 ≤ w2.heap.size from by omega)
  clear BX OB MA AB BL SZ hb hm hB hs2
  have g0 := cellAt BX2.out 0 rfl
  have g1 := cellAt BX2.out 1 rfl
  go_wp2_with (fail)
  generalize w2.alloc (.cells #[.map (some b)] 60) = W0 at T0 BX2 B2 g0 g1 ⊢
  go_loopg [21] (rs.length + 1) (fun k s21 wr => ∃ i : Nat, s21 = .int .i64 i ∧ i + k = rs.length + 1 ∧ i ≤ rs.length ∧ Below w.heap.size w wr ∧ wr.heap[w.heap.size]? = some (.cells #[.string st, .slice A rs.length c] 25 (0, 0)) ∧ ∃ v, TabS wr (w.heap.size + 1) (w2.heap.size + 1) (w.heap.size + 1) (w.heap.size + 1 + 1 + 1) (w.heap.size + 1 + 1) w2.heap.size b (fun _ => True) rs.length (firstsF rs) v (tabDefs (firstsF rs) rs i).1 (tabDefs (firstsF rs) rs i).2)
  case atStart => exact ⟨0, rfl, by omega, Nat.zero_le _, B2.out, BX2.out, _, T0.out⟩
  case round =>
    obtain ⟨i, rfl, hi, hil, hbr, hbx, v, ht⟩ := hrel
    have KB := Aside0.mk hbr
    have KX := Aside0.mk hbx
    have KT := Aside0.mk ht
    have HIL := Aside0.mk hil
    clear hbr hbx ht g0 g1 hil
    by_cases hlt : i < rs.length
    · have hlt' : (i : Int) < (rs.length : Int) := by omega
      obtain ⟨ad, A2, c2, rfl, hx0, hx1, hx2, hx3, hxl, hxC⟩ := at_T50 HA.out (i : Int) (by omega) hlt'
      simp only [Int.toNat_natCast] at hx0 hx1 hx2 hx3
      replace hx0 := pw_cell_below KB.out hx0
      replace hx1 := pw_cell_below KB.out hx1
      replace hx2 := pw_cell_below KB.out hx2
      replace hx3 := pw_cell_below KB.out hx3
      have hmem : rd_T50 rs (i : Int) ∈ rs := by
        have e : rd_T50 rs (i : Int) = rs[i] := by simp [rd_T50, hlt]
        rw [e]
        exact List.getElem_mem hlt
      have HR := Aside0.mk (HALL.out _ hmem)
      have HLT := Aside0.mk hlt
      obtain ⟨x, hx⟩ : ∃ x, x = rd_T50 rs (i : Int) := ⟨_, rfl⟩
      rw [← hx] at hx0 hx1 hx2 hx3 HR
      have HX := Aside0.mk hx
      have HDL := Aside0.mk (tabDefs_ok (firstsF rs) rs i).2
      clear hx hmem hxC hxl
      have r0 := cellAt (blk_new wr (.cells #[.string x.f0, .int .i64 x.f1.f0, .string x.f1.f1, .slice A2 x.f1.f2.length c2] 50)) 0 rfl
      go_wp2_with (fail)
      refine (add_calls (KT.out.alloc _) HR.out.1 (by have := HDL.out; have := HIL.out; have := HLN.out; omega) (fun _ _ => trivial)).mono ?_
      rintro e w5 ⟨rfl, v5, h5, hk5⟩
      have T5 := Aside0.mk h5
      have K5 := Aside0.mk hk5
      clear h5 hk5 r0
      go_wp2_with (fail)
      go_roundg (rs.length - i)
      case measure => omega
      case rel =>
        have h1 := HLT.out
        have h2 := HLN.out
        have e1 : tabDefs (firstsF rs) rs (i + 1) = tabAdd (firstsF rs) (tabDefs (firstsF rs) rs i) x.f0 := by rw [HX.out]; rfl
        have hsz : wr.heap.size < (wr.alloc (.cells #[.string x.f0, .int .i64 x.f1.f0, .string x.f1.f1, .slice A2 x.f1.f2.length c2] 50)).heap.size := by simp
        refine ⟨i + 1, by congr 1; unfold wrap64; omega, by omega, by omega, ?_, ?_, v5, by rw [e1]; exact T5.out⟩
        · exact (KB.out.alloc KB.out.size _).trans (K5.out.1.mono (Nat.le_succ _))
        · exact (K5.out.1.block _ (Nat.lt_succ_self _)).trans (blk_alloc KX.out _)
    · have hge : (rs.length : Int) ≤ i := by omega
      have e1 : i = rs.length := by have := HIL.out; omega
      subst e1
      have g0 := cellAt KX.out 0 rfl
      have g1 := cellAt KX.out 1 rfl
      go_wp2_with (fail)
      go_loopg [33] (rs.length + 1) (fun k s33 wr => ∃ i : Nat, s33 = .int .i64 i ∧ i + k = rs.length + 1 ∧ i ≤ rs.length ∧ Below w.heap.size w wr ∧ wr.heap[w.heap.size]? = some (.cells #[.string st, .slice A rs.length c] 25 (0, 0)) ∧ ∃ v, TabS wr (w.heap.size + 1) (w2.heap.size + 1) (w.heap.size + 1) (w.heap.size + 1 + 1 + 1) (w.heap.size + 1 + 1) w2.heap.size b (fun _ => True) rs.length (firstsF rs) v (tabRefs (firstsF rs) rs i).1 (tabRefs (firstsF rs) rs i).2)
      case atStart => exact ⟨0, rfl, by omega, Nat.zero_le _, KB.out, KX.out, _, KT.out⟩
      case round =>
        clear g0 g1
        obtain ⟨i, rfl, hi, hil, hbr, hbx, v, ht⟩ := hrel
        have KB := Aside0.mk hbr
        have KX := Aside0.mk hbx
        have KT := Aside0.mk ht
        have HIL := Aside0.mk hil
        clear hbr hbx ht hil
        by_cases hlt : i < rs.length
        · have hlt' : (i : Int) < (rs.length : Int) := by omega
          obtain ⟨ad, A2, c2, rfl, hx0, hx1, hx2, hx3, hxl, hxC⟩ := at_T50 HA.out (i : Int) (by omega) hlt'
          simp only [Int.toNat_natCast] at hx0 hx1 hx2 hx3
          have XC := Aside0.mk (Kd.C_alloc (Kd.C_below hxC KB.out) (.cells #[.string (rd_T50 rs (i : Int)).f0, .int .i64 (rd_T50 rs (i : Int)).f1.f0, .string (rd_T50 rs (i : Int)).f1.f1, .slice A2 (rd_T50 rs (i : Int)).f1.f2.length c2] 50))
          replace hx0 := pw_cell_below KB.out hx0
          replace hx1 := pw_cell_below KB.out hx1
          replace hx2 := pw_cell_below KB.out hx2
          replace hx3 := pw_cell_below KB.out hx3
          have hmem : rd_T50 rs (i : Int) ∈ rs := by
            have e : rd_T50 rs (i : Int) = rs[i] := by simp [rd_T50, hlt]
            rw [e]
            exact List.getElem_mem hlt
          have HR := Aside0.mk (HALL.out _ hmem)
          have HLT := Aside0.mk hlt
          have HXL := Aside0.mk hxl
          obtain ⟨x, hx⟩ : ∃ x, x = rd_T50 rs (i : Int) := ⟨_, rfl⟩
          rw [← hx] at hx0 hx1 hx2 hx3 HR HXL XC
          have HX := Aside0.mk hx
          have HDL := Aside0.mk (HUP.out i HIL.out)
          clear hx hmem hxC hxl
          have BR := Aside0.mk (blk_new wr (.cells #[.string x.f0, .int .i64 x.f1.f0, .string x.f1.f1, .slice A2 x.f1.f2.length c2] 50))
          have r1 := cellAt BR.out 1 rfl
          have r2 := cellAt BR.out 2 rfl
          have r3 := cellAt BR.out 3 rfl
          go_wp2_with (fail)
          refine (Refs_calls x.f1 A2 c2 _ HR.out.2.1 XC.out HXL.out HR.out.2.2).mono ?_
          rintro e w5 ⟨v4, rfl, hv4, hb5⟩
          obtain ⟨A4, c4, rfl⟩ := Kd.R_slice hv4
          have hle := KT.out.le
          have hob : ∀ k, (Value.slice A4 (refsN x.f1).length c4).ownBlock = some k → wr.heap.size + 1 ≤ k := fun k hk => by have := Kd.R_base hv4 k hk; simpa using this
          have T5 := Aside0.mk (((KT.out.alloc (.cells #[.string x.f0, .int .i64 x.f1.f0, .string x.f1.f1, .slice A2 x.f1.f2.length c2] 50)).okay (ok' := fun k => some k ≠ (Value.slice A4 (refsN x.f1).length c4).ownBlock) (fun k _ h1 h2 e => by have := hob k e.symm; simp at h2; omega)).below hb5)
          have V4 := Aside0.mk (R_str_own (Kd.R_lower hv4 (show w2.heap.size + 1 ≤ _ by simp; omega)))
          have B5 := Aside0.mk ((KB.out.alloc KB.out.size (.cells #[.string x.f0, .int .i64 x.f1.f0, .string x.f1.f1, .slice A2 x.f1.f2.length c2] 50)).trans (hb5.mono (B' := w.heap.size) (by have := KB.out.size; simp; omega)))
          have X5 := Aside0.mk (blk_below (blk_alloc KX.out (.cells #[.string x.f0, .int .i64 x.f1.f0, .string x.f1.f1, .slice A2 x.f1.f2.length c2] 50)) hb5)
          have HNS := Aside0.mk (refsN_mem _ x.f1 (Nat.lt_succ_self _) HR.out.2.1)
          clear hv4 hb5 hob r1 r2 r3 hle
          go_wp2_with (fail)
          go_loopg [41] ((refsN x.f1).length + 1) (fun k s41 wq => ∃ q : Nat, s41 = .int .i64 q ∧ q + k = (refsN x.f1).length + 1 ∧ q ≤ (refsN x.f1).length ∧ Below w.heap.size w wq ∧ wq.heap[w.heap.size]? = some (.cells #[.string st, .slice (some ad) rs.length c] 25 (0, 0)) ∧
            (∃ v, TabS wq (w.heap.size + 1) (w2.heap.size + 1) (w.heap.size + 1) (w.heap.size + 1 + 1 + 1) (w.heap.size + 1 + 1) w2.heap.size b (fun k => some k ≠ (Value.slice A4 (refsN x.f1).length c4).ownBlock) rs.length (firstsF rs) v (((refsN x.f1).take q).foldl (tabUse (firstsF rs)) (tabRefs (firstsF rs) rs i)).1 (((refsN x.f1).take q).foldl (tabUse (firstsF rs)) (tabRefs (firstsF rs) rs i)).2) ∧
            Kd.R Kd.string 9 wq (w2.heap.size + 1) (fun k => some k = (Value.slice A4 (refsN x.f1).length c4).ownBlock) (.slice A4 (refsN x.f1).length c4) (refsN x.f1))
          case atStart => exact ⟨0, rfl, by omega, Nat.zero_le _, B5.out, X5.out, ⟨_, T5.out⟩, V4.out⟩
          case round =>
            obtain ⟨q, rfl, hq, hql, hbq, hbx, ⟨v, ht⟩, hrf⟩ := hrel
            obtain ⟨A7, c7, rfl⟩ := Kd.R_slice ht.rows
            have KB2 := Aside0.mk hbq
            have KX2 := Aside0.mk hbx
            have KT2 := Aside0.mk ht
            have KF2 := Aside0.mk hrf
            have HQL := Aside0.mk hql
            clear hbq hbx ht hql
            by_cases hlt2 : q < (refsN x.f1).length
            · obtain ⟨ad4, hA4, hn0⟩ := Kd.at_string (Kd.R_reads' hrf).2.2 (q : Int) (by omega) (by omega)
              simp only [Int.toNat_natCast] at hn0
              have en : rdOf ByteArray.empty (refsN x.f1) (q : Int) = (refsN x.f1)[q] := by simp [rdOf, hlt2]
              rw [en] at hn0
              have HSN : Aside0 ((refsN x.f1).take (q + 1) = (refsN x.f1).take q ++ [(refsN x.f1)[q]]) := ⟨by rw [List.take_add_one, List.getElem?_eq_getElem hlt2]; rfl⟩
              have hns := HNS.out _ (List.getElem_mem hlt2)
              generalize (refsN x.f1)[q] = n at hn0 HSN hns
              have HNZ := Aside0.mk hns
              have HL2 := Aside0.mk hlt2
              obtain ⟨hok0, hlen0⟩ := uses_ok (firstsF rs) ((refsN x.f1).take q) (tabRefs (firstsF rs) rs i) HDL.out.1
              rw [List.length_take] at hlen0
              have HOKP := Aside0.mk hok0
              have HLP : Aside0 ((((refsN x.f1).take q).foldl (tabUse (firstsF rs)) (tabRefs (firstsF rs) rs i)).2.length + 2 ≤ 2000000000000) := ⟨by have := HDL.out.2; have := HIL.out; have := HLN.out; have := HR.out.2.2; have := HLT.out; omega⟩
              clear hrf hns en hok0 hlen0
              obtain ⟨p, hp⟩ : ∃ p, p = (((refsN x.f1).take q).foldl (tabUse (firstsF rs)) (tabRefs (firstsF rs) rs i)) := ⟨_, rfl⟩
              rw [← hp] at KT2 HOKP HLP
              have HP := Aside0.mk hp
              clear hp
              subst hA4
              go_wp2_with (fail)
              refine (add_calls (at_ := p.1) (syms := p.2) KT2.out HNZ.out (by have := HLP.out; omega) (fun k hk e => by have := Kd.R_lt KF2.out k e.symm; omega)).mono ?_
              rintro e w6 ⟨rfl, v6, h6, hk6⟩
              obtain ⟨hok6, hi0, hi1⟩ := tabAdd_ok (first := firstsF rs) HOKP.out n
              obtain ⟨j, hj⟩ : ∃ j : Nat, tabIdx (firstsF rs) p n = (j : Int) := ⟨_, (Int.toNat_of_nonneg hi0).symm⟩
              rw [show ((p.1, p.2) : FM × List S45) = p from rfl] at h6
              rw [show tabIdx (firstsF rs) (p.1, p.2) n = (j : Int) from hj]
              rw [hj] at hi1
              obtain ⟨g, cap, rfl, hgb, hgl, cells, hgc⟩ := Kd.R_form h6.rows (by omega)
              obtain ⟨cs, hcl, hM, hcc, _⟩ := Kd.R_elem h6.rows z45 (j : Int) (by omega) (by omega)
              have hcs := k45_openM hM
              subst hcs
              simp only [Int.toNat_natCast] at hcc
              have hx6 : w6.cell? ⟨g, j * 3 + 2, none⟩ = some (.int .i64 (rd_T45 (tabAdd (firstsF rs) p n).2 (j : Int)).f2) := hcc 2 _ rfl
              have fx6 := blk_frozen hgc (j * 3 + 2)
              have co6 := cellAt h6.out 0 rfl
              have H6 := Aside0.mk h6
              have K6 := Aside0.mk hk6
              have HCC := Aside0.mk hcc
              have HI1 := Aside0.mk hi1
              have HGB := Aside0.mk hgb
              have HJ := Aside0.mk hj
              clear h6 hk6 hcc hok6 hi0 hj hM hcl hgb hgl
              go_wp2_with (fail)
              have le6 := H6.out.le
              have ne6 := H6.out.ne
              have hgb := HGB.out
              have hi1 := HI1.out
              go_roundg ((refsN x.f1).length - q)
              case measure => omega
              case rel =>
                have hq2 := HL2.out
                have hq3 := HR.out.2.2
                have eP : (((refsN x.f1).take (q + 1)).foldl (tabUse (firstsF rs)) (tabRefs (firstsF rs) rs i)) = tabUse (firstsF rs) p n := by rw [HSN.out, List.foldl_append, HP.out]; rfl
                have eB : (tabUse (firstsF rs) p n).2 = (tabAdd (firstsF rs) p n).2.set j { rd_T45 (tabAdd (firstsF rs) p n).2 (j : Int) with f2 := wrap64 ((rd_T45 (tabAdd (firstsF rs) p n).2 (j : Int)).f2 + 1) } := by
                  unfold tabUse bump
                  rw [HJ.out]
                  rfl
                have hseg := (Kd.R_seg H6.out.rows (j : Int) (by omega) (by omega) (c := [.string (rd_T45 (tabAdd (firstsF rs) p n).2 (j : Int)).f0, .int .i64 (rd_T45 (tabAdd (firstsF rs) p n).2 (j : Int)).f1, .int .i64 (rd_T45 (tabAdd (firstsF rs) p n).2 (j : Int)).f2])
                  (seg := [.int .i64 (wrap64 ((rd_T45 (tabAdd (firstsF rs) p n).2 (j : Int)).f2 + 1))]) (j := 2) rfl (fun a u hu => by simpa using HCC.out a u hu) (show 2 + 1 ≤ 3 from Nat.le_refl 3)
                  (x' := { rd_T45 (tabAdd (firstsF rs) p n).2 (j : Int) with f2 := wrap64 ((rd_T45 (tabAdd (firstsF rs) p n).2 (j : Int)).f2 + 1) }) (okp := fun _ => False) (k45_mkM _ _ _ _) (fun _ h => h.elim)).1
                rw [Int.toNat_natCast] at hseg
                have hgo : some g ≠ (Value.slice (some ad4) (refsN x.f1).length c4).ownBlock := H6.out.rows.1 g rfl
                have hv0 : ∀ k, (Value.slice A7 p.2.length c7).ownBlock = some k → some k ≠ (Value.slice (some ad4) (refsN x.f1).length c4).ownBlock := fun k hk => KT2.out.rows.1 k hk
                refine ⟨q + 1, by congr 1; unfold wrap64; omega, by omega, by omega, ?_, ?_, ⟨.slice (some ⟨g, 0, none⟩) (tabAdd (firstsF rs) p n).2.length cap, ?_⟩, ?_⟩
                · exact (KB2.out.trans (K6.out.1.mono (Nat.le_succ _))).setCell (p := ⟨g, j * 3 + 2, none⟩) (by dsimp only; omega) _
                · exact blk_far ((K6.out.1.block _ (Nat.lt_succ_self _)).trans KX2.out) (p := ⟨g, j * 3 + 2, none⟩) (by dsimp only; omega) _
                · rw [eP]
                  refine ⟨blk_far H6.out.out (p := ⟨g, j * 3 + 2, none⟩) (by dsimp only; omega) _, ?_, blk_far H6.out.abox (p := ⟨g, j * 3 + 2, none⟩) (by dsimp only; omega) _, ?_, blk_far H6.out.fbox (p := ⟨g, j * 3 + 2, none⟩) (by dsimp only; omega) _, H6.out.fmap.setCell (by dsimp only; omega) _, by simp [World.setCell]; omega, ne6⟩
                  · rw [eB]
                    exact hseg
                  · have : (tabUse (firstsF rs) p n).2.length = (tabAdd (firstsF rs) p n).2.length := by rw [eB, List.length_set]
                    rw [this]
                    exact H6.out.amap.setCell (by dsimp only; omega) _
                · exact Kd.R_mono (Kd.R_far (p := ⟨g, j * 3 + 2, none⟩) (Kd.R_step (Kd.R_bound KF2.out) (fun k hk hlt => K6.out.2 k hlt (by have := hk.2.1; omega) (by have := hk.2.1; omega) (fun e => hv0 k e.symm hk.1))) (fun k hk e => hgo (by rw [← hk.1]; exact congrArg some e.symm)) _) (fun k hk => hk.1)
            · have e1 : q = (refsN x.f1).length := by have := HQL.out; omega
              have hge2 : ((refsN x.f1).length : Int) ≤ q := by omega
              have E2 := Aside0.mk e1
              clear hrf e1
              go_wp2_with (fail)
              go_roundg (rs.length - i)
              case measure => omega
              case rel =>
                have h1 := HLT.out
                have h2 := HLN.out
                have e2 : tabRefs (firstsF rs) rs (i + 1) = (((refsN x.f1).take q).foldl (tabUse (firstsF rs)) (tabRefs (firstsF rs) rs i)) := by rw [E2.out, List.take_of_length_le (Nat.le_refl _), HX.out]; rfl
                exact ⟨i + 1, by congr 1; unfold wrap64; omega, by omega, by omega, KB2.out, KX2.out, _, by rw [e2]; exact KT2.out.okay (fun _ _ _ _ => trivial)⟩
        · have hge : (rs.length : Int) ≤ i := by omega
          have e1 : i = rs.length := by have := HIL.out; omega
          subst e1
          have co := cellAt KT.out.out 0 rfl
          go_wp2_with (fail)
          go_ret
          exact ⟨_, rfl, Kd.R_lower KT.out.rows (by have := HLT2.out; omega), KB.out⟩
end
end Go.Proofs.Ytdbkooliafkcgaa.Yw
