/- Table: what it tells; the walk of its closure. -/
import Derived.Test.YtdbkooliafkcgaaSymD
set_option linter.unusedVariables false
set_option linter.unusedSimpArgs false
namespace Go.Proofs.Ytdbkooliafkcgaa.Yw
open Go.RowKit Go.Maps Go.Proofs.YtdbkooliafkcgaaW.PrintWords Go.Proofs.YtdbkooliafkcgaaW.PrintLast Go.Proofs.YtdbkooliafkcgaaW.PrintMore Go.Proofs.Ytdbkooliafkcgaa Go.Proofs.Ytdbkooliafkcgaa.P Go.Proofs.Ytdbkooliafkcgaa.Lw Go.Proofs.Ytdbkooliafkcgaa.Sw

def tabAdd (first : FM) (p : FM × List S45) (n : ByteArray) : FM × List S45 :=
  if (p.1 n.data.toList).isSome then p else (upd p.1 n.data.toList (some (p.2.length : Int)), p.2 ++ [⟨n, (first n.data.toList).getD (-1), 0⟩])
def tabIdx (first : FM) (p : FM × List S45) (n : ByteArray) : Int := ((tabAdd first p n).1 n.data.toList).getD 0
def bump (l : List S45) (i : Int) : List S45 := l.set i.toNat { rd_T45 l i with f2 := wrap64 ((rd_T45 l i).f2 + 1) }
def tabUse (first : FM) (p : FM × List S45) (n : ByteArray) : FM × List S45 := ((tabAdd first p n).1, bump (tabAdd first p n).2 (tabIdx first p n))
def tabDefs (first : FM) (rs : List S50) : Nat → FM × List S45
  | 0 => (fun _ => none, [])
  | i + 1 => tabAdd first (tabDefs first rs i) (rd_T50 rs (i : Int)).f0
def tabRefs (first : FM) (rs : List S50) : Nat → FM × List S45
  | 0 => tabDefs first rs rs.length
  | i + 1 => (refsN (rd_T50 rs (i : Int)).f1).foldl (tabUse first) (tabRefs first rs i)
def tableF (rs : List S50) : List S45 := (tabRefs (firstsF rs) rs rs.length).2
theorem infoSym : (Try.prog.info? 45).map (fun i => (i.zero, i.size, i.bytes)) = some (some (.agg #[(.string ⟨#[]⟩), (.int .i64 0), (.int .i64 0)]), 3, 32) := by kernel_rfl
/-- The table while it is built. -/
structure TabS (W : World) (G L ob ab am fb fm : Nat) (ok : Nat → Prop) (nf : Nat) (first : FM) (v : Value) (at_ : FM) (syms : List S45) : Prop where
  out : W.heap[ob]? = some (.cells #[v] 42 (0, 0))
  rows : k45.R 45 W L ok v syms
  abox : W.heap[ab]? = some (.cells #[.map (some am)] 60 (0, 0))
  amap : MapI W am syms.length at_
  fbox : W.heap[fb]? = some (.cells #[.map (some fm)] 60 (0, 0))
  fmap : MapI W fm nf first
  le : G ≤ ob ∧ G ≤ am ∧ G ≤ L ∧ ob < L ∧ ab < L ∧ am < L ∧ fb < L ∧ fm < L ∧ L ≤ W.heap.size
  ne : ob ≠ ab ∧ ob ≠ am ∧ ob ≠ fb ∧ ob ≠ fm ∧ am ≠ ab ∧ am ≠ fb ∧ am ≠ fm
/-- What stays. -/
def TabK (G : Nat) (W W' : World) (ob am : Nat) (v : Value) : Prop := Below G W W' ∧ ∀ k, k < W.heap.size → k ≠ ob → k ≠ am → some k ≠ v.ownBlock → W'.heap[k]? = W.heap[k]?
section
variable {W : World} {G L ob ab am fb fm nf : Nat} {ok : Nat → Prop} {first at_ : FM} {v : Value} {syms : List S45} {n : ByteArray}
set_option maxHeartbeats 8000000 in
set_option maxRecDepth 100000 in
theorem add_calls (h : TabS W G L ob ab am fb fm ok nf first v at_ syms) (hs : n.size ≤ 1000000) (hl : syms.length + 1 ≤ 2000000000000) (hok : ∀ k, W.heap.size ≤ k → ok k) :
    Calls Try.prog 24 #[.string n, .pointer (some ⟨ab, 0, none⟩), .pointer (some ⟨fb, 0, none⟩), .pointer (some ⟨ob, 0, none⟩)] W fun e W' =>
      e = .returned (.int .i64 (tabIdx first (at_, syms) n)) ∧ ∃ v', TabS W' G L ob ab am fb fm ok nf first v' (tabAdd first (at_, syms) n).1 (tabAdd first (at_, syms) n).2 ∧ TabK G W W' ob am v := by
  obtain ⟨A1, c1, rfl⟩ := Kd.R_slice h.rows
  have HH := Aside0.mk h
  have HS : Aside0 (n.size ≤ maxLen) := ⟨by unfold maxLen; omega⟩
  have HL := Aside0.mk hl
  have HOK := Aside0.mk hok
  have ca := cellAt h.abox 0 rfl
  have cf := cellAt h.fbox 0 rfl
  have co := cellAt h.out 0 rfl
  have hla := h.amap.look (T := 60) Try.underlying60 (s := n) HS.out
  have hlf := h.fmap.look (T := 60) Try.underlying60 (s := n) HS.out
  clear h hs hl hok
  cases ha : (at_ n.data.toList).isSome
  · rw [ha] at hla
    have E0 : Aside0 (tabAdd first (at_, syms) n = (upd at_ n.data.toList (some (syms.length : Int)), syms ++ [⟨n, (first n.data.toList).getD (-1), 0⟩])) := ⟨by unfold tabAdd; rw [if_neg (by rw [ha]; simp)]⟩
    have E1 : Aside0 (tabIdx first (at_, syms) n = (syms.length : Int)) := ⟨by unfold tabIdx; rw [E0.out]; simp [upd]⟩
    clear ha
    go_enter Try.func24, Try.ntmps24
    go_upto_if 25 with (fail)
    go_cut [8] (fun s8 wx => s8 = .int .i64 ((first n.data.toList).getD (-1)) ∧ wx = W)
    case first =>
      go_wp2
      all_goals go_meet
      all_goals refine ⟨?_, rfl⟩
      all_goals (cases hf : first n.data.toList <;> simp_all)
    case rest =>
      obtain ⟨rfl, hw⟩ := hcut
      replace hw := hw.symm
      subst hw
      obtain ⟨w6, hrun, hm6, hg6⟩ := HH.out.amap.store (T := 60) Try.underlying60 (by have := HL.out; unfold maxLen; omega) (s := n) HS.out (c := (syms.length : Int)) (WalkArith.wf_i64 (by have := HL.out; omega))
      have HG6 := Aside0.mk hg6
      have M6 := Aside0.mk hm6
      have NE := Aside0.mk HH.out.ne
      have LE := Aside0.mk HH.out.le
      have O6 := Aside0.mk (blk_grown HH.out.out hg6 (fun e => by have := NE.out; have := Option.some.inj e; omega))
      have V6 := Aside0.mk (Kd.R_mono (Kd.R_grown (Kd.R_bound HH.out.rows) hg6 (fun k hk e => by have := hk.2.1; have := LE.out; have := Option.some.inj e; omega)) (fun k hk => hk.1 : ∀ k, _ → ok k))
      have co6 := cellAt O6.out 0 rfl
      have HFR : Aside0 (∀ k, w6.heap.size ≤ k → ok k) := ⟨fun k hk => HOK.out k (Nat.le_trans HG6.out.size hk)⟩
      have HBS := Aside0.mk (show L ≤ w6.heap.size from Nat.le_trans LE.out.2.2.2.2.2.2.2.2 HG6.out.size)
      clear hm6 hg6
      go_wp2_with (first | ((with_reducible refine gate_builtin (b := .append) (xs := #[.tmp 31, .tmp 35]) rfl ?_); at_builtin; refine Kd.R_append k45 (w0 := w6) L rfl (.tmp 31) (.tmp 35) 42 45 (.agg #[(.string ⟨#[]⟩), (.int .i64 0), (.int .i64 0)]) 32 rfl Try.underlying42 infoSym rfl (by decide) (by decide) (.slice A1 syms.length c1) syms (⟨n, (first n.data.toList).getD (-1), 0⟩ : S45) [.string n, .int .i64 ((first n.data.toList).getD (-1)), .int .i64 0] ok (fun _ => False) rfl rfl (k45_mkM _ _ _ _) (fun _ hk => hk.elim) HFR.out V6.out (Below.refl _ _) HBS.out (by have := HL.out; omega) ?_; intro v1 w9 hO hB hG hat; obtain ⟨A9, c9, rfl⟩ := Kd.R_slice hO; have HO9 := Aside0.mk hO; have HG9 := Aside0.mk hG; have O9 := Aside0.mk (blk_grown O6.out hG (fun e => by have := Kd.R_base V6.out _ e.symm; have := LE.out; omega)); have co9 := cellAt O9.out 0 rfl; have fo9 := blk_frozen O9.out 0; clear hO hB hG hat))
      go_ret
      have hbb : ∀ k, (Value.slice A1 syms.length c1).ownBlock = some k → L ≤ k := fun k hk => Kd.R_base V6.out k hk
      have le := LE.out
      have ne := NE.out
      have elen : (syms ++ [(⟨n, (first n.data.toList).getD (-1), 0⟩ : S45)]).length = syms.length + 1 := by simp
      have fin : ∀ k, k < W.heap.size → k ≠ ob → k ≠ am → some k ≠ (Value.slice A1 syms.length c1).ownBlock → (w9.setCell ⟨ob, 0, none⟩ (.slice A9 (syms.length + 1) c9)).heap[k]? = W.heap[k]? := by
        intro k hk h1 h2 h3
        rw [Below.heap_setCell _ _ _ _ h1, HG9.out.block k (Nat.lt_of_lt_of_le hk HG6.out.size) h3, HG6.out.block k hk (fun e => h2 (Option.some.inj e))]
      have fin' : ∀ {o : Obj} {k : Nat}, W.heap[k]? = some o → k < L → k ≠ ob → k ≠ am → (w9.setCell ⟨ob, 0, none⟩ (.slice A9 (syms.length + 1) c9)).heap[k]? = some o := by
        intro o k h0 h1 h2 h3
        rw [fin k (blk_lt h0) h2 h3 (fun e => by have := hbb k e.symm; omega)]
        exact h0
      refine ⟨by rw [E1.out]; rfl, .slice A9 (syms.length + 1) c9, ?_, ?_, fin⟩
      · rw [E0.out]
        refine ⟨?_, ?_, fin' HH.out.abox (by omega) (by omega) (by omega), ?_, fin' HH.out.fbox (by omega) (by omega) (by omega), ?_, ?_, ne⟩
        · have := blk_set O9.out 0 (.slice A9 (syms.length + 1) c9)
          simpa using this
        · rw [← elen]
          exact Kd.R_mono (Kd.R_far (p := ⟨ob, 0, none⟩) (Kd.R_bound HO9.out) (fun k hk e => by have := hk.2.1; dsimp only at e; omega) _) (fun k hk => hk.1)
        · rw [elen]
          exact (M6.out.kept HG9.out (fun e => by have := hbb _ e.symm; omega)).setCell (by dsimp only; omega) _
        · exact ((HH.out.fmap.kept HG6.out (fun e => by have := Option.some.inj e; omega)).kept HG9.out (fun e => by have := hbb _ e.symm; omega)).setCell (by dsimp only; omega) _
        · have h1 := HG6.out.size
          have h2 := HG9.out.size
          refine ⟨le.1, le.2.1, le.2.2.1, le.2.2.2.1, le.2.2.2.2.1, le.2.2.2.2.2.1, le.2.2.2.2.2.2.1, le.2.2.2.2.2.2.2.1, ?_⟩
          simp [World.setCell]
          omega
      · have h1 := HG6.out.size
        have h2 := HG9.out.size
        exact (((Below.refl G W).grown HG6.out (by omega) (fun k e => by have := Option.some.inj e; omega)).grown HG9.out (by omega) (fun k hk => by have := hbb k hk; omega)).setCell (by dsimp only; omega) _
  · rw [ha] at hla
    have E0 : Aside0 (tabAdd first (at_, syms) n = (at_, syms)) := ⟨by unfold tabAdd; rw [if_pos ha]⟩
    clear ha
    go_enter Try.func24, Try.ntmps24
    go_wp2
    go_ret
    refine ⟨by unfold tabIdx; rw [E0.out]; rfl, _, by rw [E0.out]; exact HH.out, Below.refl _ _, fun _ _ _ _ _ => rfl⟩
end
end Go.Proofs.Ytdbkooliafkcgaa.Yw
