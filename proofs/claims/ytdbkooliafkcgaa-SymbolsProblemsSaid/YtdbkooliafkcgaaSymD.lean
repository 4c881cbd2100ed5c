/- Check: what it tells, and its walk. -/
import Derived.Test.YtdbkooliafkcgaaSymC
import Derived.Deep.DeepCutAuto
import Derived.Deep.RegionHeld3
import Derived.Deep.AppendLies
import Derived.Deep.CutBlock
set_option linter.unusedVariables false
set_option linter.unusedSimpArgs false
namespace Go.Proofs.Ytdbkooliafkcgaa.Yw
open Go.RowKit Go.Maps Go.Proofs.YtdbkooliafkcgaaW.PrintWords Go.Proofs.YtdbkooliafkcgaaW.PrintLast Go.Proofs.YtdbkooliafkcgaaW.PrintMore Go.Proofs.Ytdbkooliafkcgaa Go.Proofs.Ytdbkooliafkcgaa.P Go.Proofs.Ytdbkooliafkcgaa.Lw Go.Proofs.Ytdbkooliafkcgaa.Sw

abbrev FM := List UInt8 → Option Int
/-- One name of a rule. -/
def refStep (first : FM) (i : Nat) (p : (List UInt8 → Bool) × List S38) (n : ByteArray) : (List UInt8 → Bool) × List S38 :=
  if (first n.data.toList).isSome then p else if p.1 n.data.toList then p else (upd p.1 n.data.toList true, p.2 ++ [⟨10, i, n⟩])
def dupStep (first : FM) (i : Nat) (n : ByteArray) (acc : List S38) : List S38 := if (first n.data.toList).getD 0 = (i : Int) then acc else acc ++ [⟨9, i, n⟩]
def refsFold (first : FM) (i : Nat) (l : List ByteArray) (acc : List S38) : (List UInt8 → Bool) × List S38 := l.foldl (refStep first i) (fun _ => false, acc)
def ruleStep (first : FM) (acc : List S38) (i : Nat) (r : S50) : List S38 := (refsFold first i (refsN r.f1) (dupStep first i r.f0 acc)).2
def rulesUpto (first : FM) (rs : List S50) : Nat → List S38
  | 0 => []
  | i + 1 => ruleStep first (rulesUpto first rs i) i (rd_T50 rs (i : Int))
def firstsF (rs : List S50) : FM := upds rs (backs rs.length)
def checkF (st : ByteArray) (rs : List S50) : List S38 :=
  if (firstsF rs st.data.toList).isSome then rulesUpto (firstsF rs) rs rs.length else rulesUpto (firstsF rs) rs rs.length ++ [⟨19, -1, st⟩]
theorem refsFold_snoc (first : FM) (i : Nat) (l : List ByteArray) (n : ByteArray) (acc : List S38) : refsFold first i (l ++ [n]) acc = refStep first i (refsFold first i l acc) n := by simp [refsFold]
theorem dupStep_length (first : FM) (i : Nat) (n : ByteArray) (acc : List S38) : (dupStep first i n acc).length ≤ acc.length + 1 := by
  unfold dupStep
  split <;> simp
theorem refStep_length (first : FM) (i : Nat) (p : (List UInt8 → Bool) × List S38) (n : ByteArray) : (refStep first i p n).2.length ≤ p.2.length + 1 := by
  unfold refStep
  split
  · omega
  · split <;> simp
theorem refsFold_length (first : FM) (i : Nat) (acc : List S38) (l : List ByteArray) (q : Nat) : (refsFold first i (l.take q) acc).2.length ≤ acc.length + q := by
  induction q with
  | zero => simp [refsFold]
  | succ q ih =>
    by_cases h : q < l.length
    · rw [List.take_add_one, List.getElem?_eq_getElem h]
      have e : l.take q ++ (some l[q]).toList = l.take q ++ [l[q]] := rfl
      rw [e, refsFold_snoc]
      have := refStep_length first i (refsFold first i (l.take q) acc) l[q]
      omega
    · rw [List.take_of_length_le (by omega)] at ih ⊢
      omega
/-- May it be looked at? -/
def okRule (r : S50) : Bool := decide (r.f0.size ≤ 1000000) && textN r.f1 && decide ((refsN r.f1).length ≤ 1000000)
def okG (st : ByteArray) (rs : List S50) : Bool := decide (st.size ≤ 1000000) && decide (rs.length ≤ 1000000) && rs.all okRule
theorem okG_parts {st : ByteArray} {rs : List S50} (h : okG st rs = true) : st.size ≤ 1000000 ∧ rs.length ≤ 1000000 ∧ ∀ x ∈ rs, x.f0.size ≤ 1000000 ∧ textN x.f1 = true ∧ (refsN x.f1).length ≤ 1000000 := by
  unfold okG okRule at h
  simp only [Bool.and_eq_true, decide_eq_true_eq, List.all_eq_true] at h
  exact ⟨h.1.1, h.1.2, fun x hx => ⟨(h.2 x hx).1.1, (h.2 x hx).1.2, (h.2 x hx).2⟩⟩
theorem refsN_mem : ∀ (n : Nat) (x : S48), SizeOf.sizeOf x < n → textN x = true → ∀ s ∈ refsN x, s.size ≤ 1000000
  | 0, _, h, _, _, _ => by omega
  | n + 1, ⟨k, t, l⟩, hn, ht, s, hs => by
    unfold textN at ht
    simp only [Bool.and_eq_true, decide_eq_true_eq] at ht
    unfold refsN at hs
    split at hs
    · have : s = t := by simpa using hs
      rw [this]
      exact ht.1
    · have key : ∀ l' : List S48, (∀ y ∈ l', y ∈ l) → s ∈ refsL l' → s.size ≤ 1000000 := by
        intro l'
        induction l' with
        | nil => intro _ h; simp [refsL] at h
        | cons y l' ih =>
          intro hm h
          simp only [refsL, List.mem_append] at h
          rcases h with h | h
          · have hy := hm y (by simp)
            have := List.sizeOf_lt_of_mem hy
            simp at hn
            exact refsN_mem n y (by omega) (textL_mem ht.2 hy) s h
          · exact ih (fun z hz => hm z (by simp [hz])) h
      exact key l (fun _ h => h) hs
theorem rulesUpto_length (first : FM) (rs : List S50) (h : ∀ x ∈ rs, (refsN x.f1).length ≤ 1000000) : ∀ i, i ≤ rs.length → (rulesUpto first rs i).length ≤ i * 1000001
  | 0, _ => by simp [rulesUpto]
  | i + 1, hi => by
    have ih := rulesUpto_length first rs h i (by omega)
    have e : rd_T50 rs (i : Int) = rs[i] := by simp [rd_T50, show i < rs.length by omega]
    have h1 := h _ (List.getElem_mem (show i < rs.length by omega))
    unfold rulesUpto ruleStep
    rw [e]
    have h2 := refsFold_length first i (dupStep first i rs[i].f0 (rulesUpto first rs i)) (refsN rs[i].f1) (refsN rs[i].f1).length
    rw [List.take_of_length_le (Nat.le_refl _)] at h2
    have h3 := dupStep_length first i rs[i].f0 (rulesUpto first rs i)
    omega
theorem infoProb : (Try.prog.info? 38).map (fun i => (i.zero, i.size, i.bytes)) = some (some (.agg #[(.int .i64 0), (.int .i64 0), (.string ⟨#[]⟩)]), 3, 32) := by kernel_rfl
theorem MapI.below {w w' : World} {B b n : Nat} {f : FM} (h : MapI w b n f) (hB : Below B w w') (hb : b < B) : MapI w' b n f := by
  obtain ⟨D, ⟨es, ck, hh, hr⟩, hd⟩ := h
  exact ⟨D, ⟨es, ck, (hB.block b hb).trans hh, hr⟩, hd⟩
theorem MapB.below {w w' : World} {B b n : Nat} {f : List UInt8 → Bool} (h : MapB w b n f) (hB : Below B w w') (hb : b < B) : MapB w' b n f := by
  obtain ⟨D, ⟨es, ck, hh, hr⟩, hd⟩ := h
  exact ⟨D, ⟨es, ck, (hB.block b hb).trans hh, hr⟩, hd⟩
theorem MapB.mono {w : World} {b n n' : Nat} {f : List UInt8 → Bool} (h : MapB w b n f) (hn : n ≤ n') : MapB w b n' f := by
  obtain ⟨D, ho, hd⟩ := h
  exact ⟨D, ho.mono hn, hd⟩
theorem R_str_own {w : World} {e base : Nat} {ok : Nat → Prop} {v : Value} {xs : List ByteArray} (h : Kd.R Kd.string e w base ok v xs) : Kd.R Kd.string e w base (fun k => some k = v.ownBlock) v xs := ⟨fun k hk => hk.symm, h.2⟩
section
variable {w : World}
set_option maxHeartbeats 8000000 in
set_option maxRecDepth 100000 in
theorem check_calls (st : ByteArray) (A : Option Addr) (c : Nat) (rs : List S50) (w : World) (hg : okG st rs = true) (hA : k50.C w A rs.length rs) :
    Calls Try.prog 8 #[.agg #[.string st, .slice A rs.length c]] w fun e w' => ∃ v, e = .returned v ∧ k38.R 38 w' w.heap.size (fun _ => True) v (checkF st rs) ∧ Below w.heap.size w w' := by
  obtain ⟨hst, hlen, hall⟩ := okG_parts hg
  have hmm := @run_makeMap Try.prog
  have HA := Aside0.mk hA
  have HST := Aside0.mk hst
  have HLN := Aside0.mk hlen
  have HALL := Aside0.mk hall
  have HUP := Aside0.mk (rulesUpto_length (firstsF rs) rs (fun x hx => (hall x hx).2.2))
  clear hg hA hst hlen hall
  go_enter Try.func8, Try.ntmps8
  go_wp2_with (fail)
  refine (firsts_calls st A c rs _ (Kd.C_alloc HA.out _) HLN.out (fun x hx => (HALL.out x hx).1)).mono ?_
  rintro e w2 ⟨b, rfl, hb, hm, hB⟩
  have BOX := Aside0.mk (blk_below (blk_new w (.cells #[.string st, .slice A rs.length c] 25)) hB)
  have HM := Aside0.mk (show MapI w2 b rs.length (firstsF rs) from hm)
  have HB2 := Aside0.mk (((Below.refl w.heap.size w).alloc (Nat.le_refl _) (.cells #[.string st, .slice A rs.length c] 25)).trans (hB.mono (by simp)))
  have HBL := Aside0.mk (show b < w2.heap.size from hm.lt)
  have HWL := Aside0.mk (show w.heap.size < w2.heap.size from blk_lt (blk_below (blk_new w (.cells #[.string st, .slice A rs.length c] 25)) hB))
  have g0 := cellAt BOX.out 0 rfl
  have g1 := cellAt BOX.out 1 rfl
  clear hb hm hB
  go_wp2_with (fail)
  go_loopg [3, 19] (rs.length + 1) (fun k s3 s19 wr => ∃ i : Nat, s19 = .int .i64 i ∧ i + k = rs.length + 1 ∧ i ≤ rs.length ∧ k38.R 38 wr w2.heap.size (fun _ => True) s3 (rulesUpto (firstsF rs) rs i) ∧ Below w2.heap.size w2 wr)
  case atStart => exact ⟨0, rfl, by omega, Nat.zero_le _, Kd.R_nil _ _ _ _ _, Below.refl _ _⟩
  case round =>
    obtain ⟨i, rfl, hi, hil, hr, hbr⟩ := hrel
    obtain ⟨A5, c5, rfl⟩ := Kd.R_slice hr
    have KR := Aside0.mk hr
    have KB := Aside0.mk hbr
    have BXr := Aside0.mk ((hbr.block _ HWL.out).trans BOX.out)
    have HI := Aside0.mk hi
    clear hr hbr g0 g1
    by_cases hlt : i < rs.length
    · have hlt' : (i : Int) < (rs.length : Int) := by omega
      have hW0 : Below w.heap.size w wr := HB2.out.trans (KB.out.mono (Nat.le_of_lt HWL.out))
      obtain ⟨ad, A2, c2, rfl, hx0, hx1, hx2, hx3, hxl, hxC⟩ := at_T50 HA.out (i : Int) (by omega) hlt'
      simp only [Int.toNat_natCast] at hx0 hx1 hx2 hx3
      replace hx0 := pw_cell_below hW0 hx0
      replace hx1 := pw_cell_below hW0 hx1
      replace hx2 := pw_cell_below hW0 hx2
      replace hx3 := pw_cell_below hW0 hx3
      have hmem : rd_T50 rs (i : Int) ∈ rs := by
        have e : rd_T50 rs (i : Int) = rs[i] := by simp [rd_T50, hlt]
        rw [e]
        exact List.getElem_mem hlt
      have HR := Aside0.mk (HALL.out _ hmem)
      have HXC := Aside0.mk hxC
      have HXL := Aside0.mk hxl
      have HLT := Aside0.mk hlt
      obtain ⟨x, hx⟩ : ∃ x, x = rd_T50 rs (i : Int) := ⟨_, rfl⟩
      rw [← hx] at hx0 hx1 hx2 hx3 HR HXC HXL
      have HX := Aside0.mk hx
      clear hx hmem hxC hxl hW0
      have BR := Aside0.mk (blk_new wr (.cells #[.string x.f0, .int .i64 x.f1.f0, .string x.f1.f1, .slice A2 x.f1.f2.length c2] 50))
      have r0 := cellAt BR.out 0 rfl
      have hlk := ((HM.out.below KB.out HBL.out).kept (World.grownBy_alloc wr (.cells #[.string x.f0, .int .i64 x.f1.f0, .string x.f1.f1, .slice A2 x.f1.f2.length c2] 50) none) (by simp)).get (T := 60) Try.underlying60 (s := x.f0) (by have := HR.out.1; unfold maxLen; omega)
      go_upto_if 29 with (fail)
      go_cut [3] (fun s3 wx => k38.R 38 wx w2.heap.size (fun k => k ≠ wr.heap.size) s3 (dupStep (firstsF rs) i x.f0 (rulesUpto (firstsF rs) rs i)) ∧ Below w2.heap.size w2 wx ∧ wx.heap[wr.heap.size]? = some (.cells #[.string x.f0, .int .i64 x.f1.f0, .string x.f1.f1, .slice A2 x.f1.f2.length c2] 50 (0, 0)))
      case first =>
        have V1 := Aside0.mk (Kd.R_alloc (Kd.R_mono (Kd.R_bound KR.out) (fun k hk => Nat.ne_of_lt hk.2.2.1 : ∀ k, _ → k ≠ wr.heap.size)) (.cells #[.string x.f0, .int .i64 x.f1.f0, .string x.f1.f1, .slice A2 x.f1.f2.length c2] 50))
        have B1 := Aside0.mk (KB.out.alloc KB.out.size (.cells #[.string x.f0, .int .i64 x.f1.f0, .string x.f1.f1, .slice A2 x.f1.f2.length c2] 50))
        generalize wr.alloc (.cells #[.string x.f0, .int .i64 x.f1.f0, .string x.f1.f1, .slice A2 x.f1.f2.length c2] 50) = W1 at V1 B1 BR hlk r0 ⊢
        by_cases hd : ((firstsF rs) x.f0.data.toList).getD 0 = (i : Int)
        · have b0 : (((firstsF rs) x.f0.data.toList).getD 0 != (i : Int)) = false := bne_eq_false_iff_eq.mpr hd
          have e0 : dupStep (firstsF rs) i x.f0 (rulesUpto (firstsF rs) rs i) = rulesUpto (firstsF rs) rs i := if_pos hd
          clear hd
          go_wp2
          go_meet
          case rel => exact ⟨by rw [e0]; exact V1.out, B1.out, BR.out⟩
        · have b0 : (((firstsF rs) x.f0.data.toList).getD 0 != (i : Int)) = true := bne_iff_ne.mpr hd
          have e0 : dupStep (firstsF rs) i x.f0 (rulesUpto (firstsF rs) rs i) = rulesUpto (firstsF rs) rs i ++ [⟨9, i, x.f0⟩] := if_neg hd
          have E0 := Aside0.mk e0
          have HFR : Aside0 (∀ k, W1.heap.size ≤ k → k ≠ wr.heap.size) := ⟨fun k hk => by have := blk_lt BR.out; omega⟩
          have HLB := Aside0.mk (show (rulesUpto (firstsF rs) rs i).length + 1 ≤ 1000001000001 from by have := HUP.out i (Nat.le_of_lt HLT.out); have := HLN.out; have := HLT.out; omega)
          have HBS := Aside0.mk (B1.out.size)
          clear hd e0
          go_wp2_with (first | ((with_reducible refine gate_builtin (b := .append) (xs := #[.tmp 30, .tmp 35]) rfl ?_); at_builtin; refine Kd.R_append k38 (w0 := W1) w2.heap.size rfl (.tmp 30) (.tmp 35) 28 38 (.agg #[(.int .i64 0), (.int .i64 0), (.string ⟨#[]⟩)]) 32 rfl Try.underlying28 infoProb rfl (by decide) (by decide) (.slice A5 (rulesUpto (firstsF rs) rs i).length c5) (rulesUpto (firstsF rs) rs i) (⟨9, i, x.f0⟩ : S38) [.int .i64 9, .int .i64 i, .string x.f0] (fun k => k ≠ wr.heap.size) (fun _ => False) rfl rfl (k38_mkM _ _ _ _) (fun _ hk => hk.elim) HFR.out V1.out (Below.refl _ _) HBS.out (by have := HLB.out; omega) ?_; intro v1 w9 hO hB hG hat; have HO9 := Aside0.mk hO; have HG9 := Aside0.mk hG; clear hO hB hG hat))
          go_meet
          case rel =>
            have hbb : ∀ k, (Value.slice A5 (rulesUpto (firstsF rs) rs i).length c5).ownBlock = some k → w2.heap.size ≤ k ∧ k < wr.heap.size := fun k hk => ⟨Kd.R_base KR.out k hk, Kd.R_lt KR.out k hk⟩
            exact ⟨by rw [E0.out]; exact HO9.out, B1.out.grown HG9.out HBS.out (fun k hk => (hbb k hk).1), blk_grown BR.out HG9.out (fun e => by have := hbb _ e.symm; omega)⟩
      case rest =>
        obtain ⟨hv3, hb3, hbx3⟩ := hcut
        obtain ⟨acc1, hacc⟩ : ∃ a, a = dupStep (firstsF rs) i x.f0 (rulesUpto (firstsF rs) rs i) := ⟨_, rfl⟩
        rw [← hacc] at hv3
        have HACC := Aside0.mk hacc
        have HLA : Aside0 (acc1.length ≤ i * 1000001 + 1) := ⟨by have := dupStep_length (firstsF rs) i x.f0 (rulesUpto (firstsF rs) rs i); have := HUP.out i (Nat.le_of_lt HLT.out); rw [hacc]; omega⟩
        obtain ⟨A6, c6, rfl⟩ := Kd.R_slice hv3
        have V3 := Aside0.mk hv3
        have B3 := Aside0.mk hb3
        have BR3 := Aside0.mk (blk_alloc hbx3 (.map #[] 0))
        have r1 := cellAt BR3.out 1 rfl
        have r2 := cellAt BR3.out 2 rfl
        have r3 := cellAt BR3.out 3 rfl
        have XC := Aside0.mk (Kd.C_alloc (Kd.C_below HXC.out (HB2.out.trans (B3.out.mono (Nat.le_of_lt HWL.out)))) (.map #[] 0))
        clear hacc hv3 hb3 hbx3 hlk r0
        go_wp2_with (fail)
        refine (Refs_calls x.f1 A2 c2 _ HR.out.2.1 XC.out HXL.out HR.out.2.2).mono ?_
        rintro e w5 ⟨v4, rfl, hv4, hb5⟩
        obtain ⟨A4, c4, rfl⟩ := Kd.R_slice hv4
        have MT := Aside0.mk ((MapB.made wc).below hb5 (by simp))
        have V4 := Aside0.mk (R_str_own (Kd.R_lower hv4 (show wc.heap.size + 1 ≤ _ by simp)))
        have hob : ∀ k, (Value.slice A4 (refsN x.f1).length c4).ownBlock = some k → wc.heap.size + 1 ≤ k := fun k hk => Kd.R_base V4.out k hk
        have V5 := Aside0.mk (Kd.R_below (Kd.R_alloc (Kd.R_mono (Kd.R_bound V3.out) (fun k hk => ⟨Nat.ne_of_lt hk.2.2.1, fun e => by have := hob k e.symm; have := hk.2.2.1; omega⟩ : ∀ k, _ → k ≠ wc.heap.size ∧ some k ≠ (Value.slice A4 (refsN x.f1).length c4).ownBlock)) (.map #[] 0)) hb5)
        have B5 := Aside0.mk ((B3.out.alloc B3.out.size (.map #[] 0)).trans (hb5.mono (by have := B3.out.size; simp; omega)))
        have HNS := Aside0.mk (refsN_mem _ x.f1 (Nat.lt_succ_self _) HR.out.2.1)
        have HMG := Aside0.mk (show w2.heap.size ≤ wc.heap.size from B3.out.size)
        clear hv4 hb5 hob r1 r2 r3
        go_wp2_with (fail)
        go_loopg [3, 42] ((refsN x.f1).length + 1) (fun k s3 s42 wq => ∃ q : Nat, s42 = .int .i64 q ∧ q + k = (refsN x.f1).length + 1 ∧ q ≤ (refsN x.f1).length ∧
          k38.R 38 wq w2.heap.size (fun k => k ≠ wc.heap.size ∧ some k ≠ (Value.slice A4 (refsN x.f1).length c4).ownBlock) s3 (refsFold (firstsF rs) i ((refsN x.f1).take q) acc1).2 ∧
          MapB wq wc.heap.size q (refsFold (firstsF rs) i ((refsN x.f1).take q) acc1).1 ∧ Below w2.heap.size w2 wq ∧
          Kd.R Kd.string 9 wq (wc.heap.size + 1) (fun k => some k = (Value.slice A4 (refsN x.f1).length c4).ownBlock) (.slice A4 (refsN x.f1).length c4) (refsN x.f1))
        case atStart => exact ⟨0, rfl, by omega, Nat.zero_le _, V5.out, MT.out, B5.out, V4.out⟩
        case round =>
          obtain ⟨q, rfl, hq, hql, hr, hmt, hbq, hrf⟩ := hrel
          obtain ⟨A7, c7, rfl⟩ := Kd.R_slice hr
          have KR2 := Aside0.mk hr
          have KM2 := Aside0.mk hmt
          have KB2 := Aside0.mk hbq
          have KF2 := Aside0.mk hrf
          have HQL := Aside0.mk hql
          clear hr hmt hbq hql
          by_cases hlt2 : q < (refsN x.f1).length
          · obtain ⟨ad4, hA4, hn0⟩ := Kd.at_string (Kd.R_reads' hrf).2.2 (q : Int) (by omega) (by omega)
            simp only [Int.toNat_natCast] at hn0
            have en : rdOf ByteArray.empty (refsN x.f1) (q : Int) = (refsN x.f1)[q] := by simp [rdOf, hlt2]
            rw [en] at hn0
            have HSN : Aside0 ((refsN x.f1).take (q + 1) = (refsN x.f1).take q ++ [(refsN x.f1)[q]]) := ⟨by rw [List.take_add_one, List.getElem?_eq_getElem hlt2]; rfl⟩
            have hns := HNS.out _ (List.getElem_mem hlt2)
            generalize (refsN x.f1)[q] = n at hn0 HSN hns
            have HNZ : Aside0 (n.size ≤ maxLen) := ⟨by unfold maxLen; omega⟩
            have hlk2 := (HM.out.below KB2.out HBL.out).look (T := 60) Try.underlying60 (s := n) HNZ.out
            have hlk3 := KM2.out.get (T := 62) Try.underlying62 (s := n) HNZ.out
            have HL2 := Aside0.mk hlt2
            subst hA4
            clear hrf hns en
            cases hf : (firstsF rs n.data.toList).isSome
            · rw [hf] at hlk2
              cases ht : (refsFold (firstsF rs) i ((refsN x.f1).take q) acc1).1 n.data.toList
              · rw [ht] at hlk3
                obtain ⟨w6, hrun, hm6, hg6⟩ := KM2.out.store (T := 62) Try.underlying62 (by have := HR.out.2.2; have := HL2.out; unfold maxLen; omega) (s := n) HNZ.out true
                have ES : Aside0 (refsFold (firstsF rs) i ((refsN x.f1).take (q + 1)) acc1 = (upd (refsFold (firstsF rs) i ((refsN x.f1).take q) acc1).1 n.data.toList true, (refsFold (firstsF rs) i ((refsN x.f1).take q) acc1).2 ++ [⟨10, i, n⟩])) := ⟨by
                  rw [HSN.out, refsFold_snoc]
                  unfold refStep
                  rw [if_neg (by rw [hf]; simp), if_neg (by rw [ht]; simp)]⟩
                have V6 := Aside0.mk (Kd.R_grown KR2.out hg6 (fun k hk e => hk.1 (Option.some.inj e)))
                have F6 := Aside0.mk (Kd.R_grown (Kd.R_bound KF2.out) hg6 (fun k hk e => by have := hk.2.1; have := Option.some.inj e; omega))
                have M6 := Aside0.mk hm6
                have B6 := Aside0.mk (KB2.out.grown hg6 KB2.out.size (fun k e => by have := Option.some.inj e; have := HMG.out; omega))
                have HFR : Aside0 (∀ k, w6.heap.size ≤ k → k ≠ wc.heap.size ∧ some k ≠ (Value.slice (some ad4) (refsN x.f1).length c4).ownBlock) := ⟨fun k hk => ⟨by have := KM2.out.lt; have := hg6.size; omega, fun e => by have := Kd.R_lt F6.out k e.symm; omega⟩⟩
                have HLB := Aside0.mk (show (refsFold (firstsF rs) i ((refsN x.f1).take q) acc1).2.length + 1 ≤ 1000002000002 from by
                  have := refsFold_length (firstsF rs) i acc1 (refsN x.f1) q
                  have := HLA.out; have := HLT.out; have := HLN.out; have := HL2.out; have := HR.out.2.2; omega)
                clear hf ht hm6 hg6
                go_wp2_with (first | ((with_reducible refine gate_builtin (b := .append) (xs := #[.tmp 62, .tmp 66]) rfl ?_); at_builtin; refine Kd.R_append k38 (w0 := w6) w2.heap.size rfl (.tmp 62) (.tmp 66) 28 38 (.agg #[(.int .i64 0), (.int .i64 0), (.string ⟨#[]⟩)]) 32 rfl Try.underlying28 infoProb rfl (by decide) (by decide) (.slice A7 (refsFold (firstsF rs) i ((refsN x.f1).take q) acc1).2.length c7) (refsFold (firstsF rs) i ((refsN x.f1).take q) acc1).2 (⟨10, i, n⟩ : S38) [.int .i64 10, .int .i64 i, .string n] (fun k => k ≠ wc.heap.size ∧ some k ≠ (Value.slice (some ad4) (refsN x.f1).length c4).ownBlock) (fun _ => False) rfl rfl (k38_mkM _ _ _ _) (fun _ hk => hk.elim) HFR.out V6.out (Below.refl _ _) B6.out.size (by have := HLB.out; omega) ?_; intro v1 w9 hO hB hG hat; have HO9 := Aside0.mk hO; have HG9 := Aside0.mk hG; clear hO hB hG hat))
                have hbb := Aside0.mk (fun k hk => Kd.R_base KR2.out k hk : ∀ k, (Value.slice A7 (refsFold (firstsF rs) i ((refsN x.f1).take q) acc1).2.length c7).ownBlock = some k → w2.heap.size ≤ k)
                have hbo := Aside0.mk (fun k hk => KR2.out.1 k hk : ∀ k, (Value.slice A7 (refsFold (firstsF rs) i ((refsN x.f1).take q) acc1).2.length c7).ownBlock = some k → k ≠ wc.heap.size ∧ some k ≠ (Value.slice (some ad4) (refsN x.f1).length c4).ownBlock)
                go_roundg ((refsN x.f1).length - q)
                case measure => omega
                case rel =>
                  have hq2 := HL2.out
                  have hq3 := HR.out.2.2
                  refine ⟨q + 1, by congr 1; unfold wrap64; omega, by omega, by omega, ?_, ?_, B6.out.grown HG9.out B6.out.size (fun k hk => hbb.out k hk), ?_⟩
                  · rw [ES.out]
                    exact HO9.out
                  · rw [ES.out]
                    exact M6.out.kept HG9.out (fun e => (hbo.out _ e.symm).1 rfl)
                  · exact Kd.R_mono (Kd.R_grown F6.out HG9.out (fun k hk e => (hbo.out k e.symm).2 hk.1)) (fun k hk => hk.1)
              · rw [ht] at hlk3
                have ES : Aside0 (refsFold (firstsF rs) i ((refsN x.f1).take (q + 1)) acc1 = refsFold (firstsF rs) i ((refsN x.f1).take q) acc1) := ⟨by
                  rw [HSN.out, refsFold_snoc]
                  unfold refStep
                  rw [if_neg (by rw [hf]; simp), if_pos ht]⟩
                clear hf ht
                go_wp2
                go_roundg ((refsN x.f1).length - q)
                case measure => omega
                case rel =>
                  have hq2 := HL2.out
                  have hq3 := HR.out.2.2
                  exact ⟨q + 1, by congr 1; unfold wrap64; omega, by omega, by omega, by rw [ES.out]; exact KR2.out, by rw [ES.out]; exact KM2.out.mono (Nat.le_succ _), KB2.out, KF2.out⟩
            · rw [hf] at hlk2
              have ES : Aside0 (refsFold (firstsF rs) i ((refsN x.f1).take (q + 1)) acc1 = refsFold (firstsF rs) i ((refsN x.f1).take q) acc1) := ⟨by
                rw [HSN.out, refsFold_snoc]
                unfold refStep
                rw [if_pos hf]⟩
              clear hf
              go_wp2
              go_roundg ((refsN x.f1).length - q)
              case measure => omega
              case rel =>
                have hq2 := HL2.out
                have hq3 := HR.out.2.2
                exact ⟨q + 1, by congr 1; unfold wrap64; omega, by omega, by omega, by rw [ES.out]; exact KR2.out, by rw [ES.out]; exact KM2.out.mono (Nat.le_succ _), KB2.out, KF2.out⟩
          · have e1 : q = (refsN x.f1).length := by have := HQL.out; omega
            have hge2 : ((refsN x.f1).length : Int) ≤ q := by omega
            have E2 := Aside0.mk e1
            clear hrf e1
            go_wp2_with (fail)
            go_roundg (rs.length - i)
            case measure => omega
            case rel =>
              have hi2 := HLT.out
              have hi3 := HLN.out
              refine ⟨i + 1, by congr 1; unfold wrap64; omega, by omega, by omega, ?_, KB2.out⟩
              unfold rulesUpto ruleStep
              have h9 := KR2.out
              rw [E2.out, List.take_of_length_le (Nat.le_refl _), HACC.out, HX.out] at h9
              rw [E2.out, List.take_of_length_le (Nat.le_refl _), HACC.out, HX.out]
              exact Kd.R_mono h9 (fun _ _ => trivial)
    · have hge : (rs.length : Int) ≤ i := by omega
      have e1 : i = rs.length := by omega
      subst e1
      have hbx := BXr.out
      have g0 := cellAt hbx 0 rfl
      have g1 := cellAt hbx 1 rfl
      have hlk := (HM.out.below KB.out HBL.out).look (T := 60) Try.underlying60 (s := st) (by have := HST.out; unfold maxLen; omega)
      clear hbx
      cases hf : (firstsF rs st.data.toList).isSome
      · rw [hf] at hlk
        have ES : Aside0 (checkF st rs = rulesUpto (firstsF rs) rs rs.length ++ [⟨19, -1, st⟩]) := ⟨by unfold checkF; rw [hf]; rfl⟩
        have HLB := Aside0.mk (show (rulesUpto (firstsF rs) rs rs.length).length + 1 ≤ 1000002000002 from by have := HUP.out _ (Nat.le_refl _); have := HLN.out; omega)
        clear hf
        go_wp2_with (first | ((with_reducible refine gate_builtin (b := .append) (xs := #[.tmp 79, .tmp 83]) rfl ?_); at_builtin; refine Kd.R_append k38 (w0 := wr) w2.heap.size rfl (.tmp 79) (.tmp 83) 28 38 (.agg #[(.int .i64 0), (.int .i64 0), (.string ⟨#[]⟩)]) 32 rfl Try.underlying28 infoProb rfl (by decide) (by decide) (.slice A5 (rulesUpto (firstsF rs) rs rs.length).length c5) (rulesUpto (firstsF rs) rs rs.length) (⟨19, -1, st⟩ : S38) [.int .i64 19, .int .i64 (-1), .string st] (fun _ => True) (fun _ => False) rfl rfl (k38_mkM _ _ _ _) (fun _ hk => hk.elim) (fun _ _ => trivial) KR.out (Below.refl _ _) KB.out.size (by have := HLB.out; omega) ?_; intro v1 w9 hO hB hG hat; have HO9 := Aside0.mk hO; have HG9 := Aside0.mk hG; clear hO hB hG hat))
        go_ret
        refine ⟨_, rfl, ?_, HB2.out.trans ((KB.out.grown HG9.out KB.out.size (fun k hk => Kd.R_base KR.out k hk)).mono (Nat.le_of_lt HWL.out))⟩
        rw [ES.out]
        exact Kd.R_lower HO9.out (Nat.le_of_lt HWL.out)
      · rw [hf] at hlk
        have ES : Aside0 (checkF st rs = rulesUpto (firstsF rs) rs rs.length) := ⟨by unfold checkF; rw [hf]; rfl⟩
        clear hf
        go_wp2
        go_ret
        refine ⟨_, rfl, ?_, HB2.out.trans (KB.out.mono (Nat.le_of_lt HWL.out))⟩
        rw [ES.out]
        exact Kd.R_lower KR.out (Nat.le_of_lt HWL.out)
end
end Go.Proofs.Ytdbkooliafkcgaa.Yw
