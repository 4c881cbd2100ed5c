/- Refs of a node: the walks. -/
import Derived.Test.YtdbkooliafkcgaaSynB
import Derived.Test.YtdbkooliafkcgaaSymA
set_option linter.unusedVariables false
set_option linter.unusedSimpArgs false
namespace Go.Proofs.Ytdbkooliafkcgaa.Yw
open Go.RowKit Go.Proofs.YtdbkooliafkcgaaW.PrintWords Go.Proofs.YtdbkooliafkcgaaW.PrintLast Go.Proofs.YtdbkooliafkcgaaW.PrintMore Go.Proofs.Ytdbkooliafkcgaa Go.Proofs.Ytdbkooliafkcgaa.P Go.Proofs.Ytdbkooliafkcgaa.Lw Go.Proofs.Ytdbkooliafkcgaa.Sw

mutual
/-- The names in a node, in order. -/
def refsN : S48 → List ByteArray
  | ⟨k, t, l⟩ => if k = 1 then [t] else refsL l
def refsL : List S48 → List ByteArray
  | [] => []
  | x :: xs => refsN x ++ refsL xs
end
mutual
/-- Are its texts short? -/
def textN : S48 → Bool
  | ⟨k, t, l⟩ => decide (t.size ≤ 1000000) && textL l
def textL : List S48 → Bool
  | [] => true
  | x :: xs => textN x && textL xs
end
theorem textL_mem : ∀ {l : List S48} {x : S48}, textL l = true → x ∈ l → textN x = true
  | [], _, _, h => by cases h
  | y :: l, x, h, hx => by
    simp only [textL, Bool.and_eq_true] at h
    rcases List.mem_cons.1 hx with rfl | hx
    · exact h.1
    · exact textL_mem h.2 hx
theorem refsL_append : ∀ l l' : List S48, refsL (l ++ l') = refsL l ++ refsL l'
  | [], _ => rfl
  | x :: l, l' => by simp [refsL, refsL_append l l']
theorem refsL_take {l : List S48} {i : Nat} (h : i < l.length) : refsL (l.take (i + 1)) = refsL (l.take i) ++ refsN (rd_T48 l i) := by
  rw [List.take_add_one, List.getElem?_eq_getElem h, refsL_append]
  simp [rd_T48, h, refsL]
theorem refsL_split {l : List S48} {i : Nat} (h : i < l.length) : (refsL (l.take i)).length + (refsN (rd_T48 l i)).length ≤ (refsL l).length := by
  have e : l = l.take (i + 1) ++ l.drop (i + 1) := (List.take_append_drop _ _).symm
  have := congrArg (fun x => (refsL x).length) e
  simp only [refsL_append, refsL_take h, List.length_append] at this
  omega
theorem infoStr : (Try.prog.info? 9).map (fun i => (i.zero, i.size, i.bytes)) = some (some (.string ⟨#[]⟩), 1, 16) := by kernel_rfl
theorem below_drew_l {w w' : World} {B : Nat} (h : Below B w.drew w') : Below B w w' := ⟨h.os, h.tape, h.output, h.size, h.block⟩
/-- What has been collected so far: the variable in block b. -/
def OutR (w0 : World) (b : Nat) (acc : List ByteArray) (w : World) : Prop :=
  ∃ v, w.heap[b]? = some (.cells #[v] 51 (0, 0)) ∧ Kd.R Kd.string 9 w (b + 1) (fun _ => True) v acc ∧ Below b w0 w
section
variable {w0 w w' : World} {b : Nat} {acc : List ByteArray} {s : ByteArray}
theorem OutR.alloc (h : OutR w0 b acc w) (o : Obj) : OutR w0 b acc (w.alloc o) := by
  obtain ⟨v, h1, h2, h3⟩ := h
  exact ⟨v, blk_alloc h1 o, Kd.R_alloc h2 o, h3.alloc (by have := blk_lt h1; omega) o⟩
set_option maxHeartbeats 4000000 in
set_option maxRecDepth 100000 in
theorem clone_calls (s : ByteArray) (w : World) (hs : s.size ≤ 1000000) : Calls Try.prog 33 #[.string s] w fun e w' => e = .returned (.string s) ∧ Below w.heap.size w w' := by
  have HS := Aside0.mk hs
  clear hs
  go_enter Try.func33, Try.ntmps33
  go_wp2_with (fail)
  refine (Try.stringslite_Clone s w (by have := HS.out; omega)).mono ?_
  rintro e w1 ⟨rfl, hb⟩
  have HB := Aside0.mk hb
  clear hb
  go_wp2
  go_ret
  exact ⟨rfl, HB.out⟩
set_option maxHeartbeats 4000000 in
set_option maxRecDepth 100000 in
theorem yield_calls (h : OutR w0 b acc w) (hs : s.size ≤ 1000000) (hl : acc.length + 1 ≤ 1000000) :
    Calls Try.prog 32 #[.string s, .pointer (some ⟨b, 0, none⟩)] w fun e w' => e = .returned (.bool true) ∧ OutR w0 b (acc ++ [s]) w' := by
  obtain ⟨v, hb, hv, hB⟩ := h
  obtain ⟨A1, c1, rfl⟩ := Kd.R_slice hv
  have B0 := Aside0.mk hb
  have V0 := Aside0.mk hv
  have W0 := Aside0.mk hB
  have HS := Aside0.mk hs
  have HL := Aside0.mk hl
  have c0 := cellAt hb 0 rfl
  clear hb hv hB hs hl
  go_enter Try.func32, Try.ntmps32
  go_wp2_with (fail)
  refine start_ (n := 6) (S := fun w' => w'.cell? ⟨b, 0, none⟩ = some (.slice A1 acc.length c1)) (ds := [4, 5]) #[false, false, false, false, false, false] (by kernel_rfl) rfl rfl (c0) (fun hHeld => ?_)
  refine pure_ (i := 1) (N := some 5) (v := ?_) (a' := ?_) #[false, true, false, false, false, false] rfl rfl (by kernel_rfl) (fun _ _ _ h => h) (Or.inl ⟨by rfl, ?_⟩) ?_ ?_
  rotate_left
  · intro w'
    go_simp
    with_reducible rfl
  rotate_left
  · simp only [Act.put, List.setIfInBounds_toArray, List.set_cons_zero, List.set_cons_succ, i64_w, i32_w]
    rfl
  refine take_ (i := 0) (N := some 4) (v := ?_) (a' := ?_) #[true, true, false, false, false, false] rfl rfl (by kernel_rfl) (fun _ _ _ h => h) (Or.inl ⟨by rfl, ?_⟩) hHeld ?_ ?_
  rotate_left
  · intro w' s0
    go_simp
    with_reducible rfl
  rotate_left
  · simp only [Act.put, List.setIfInBounds_toArray, List.set_cons_zero, List.set_cons_succ, i64_w, i32_w]
    rfl
  refine one_ (i := 2) (N := some 6) #[true, true, true, false, false, false] rfl rfl (by kernel_rfl) (by decide) (fun K hK => ?_)
  refine goes_ Try.func33 (by kernel_rfl) rfl #[.string s] (by rfl) rfl rfl (by simp only [List.map_toArray, List.map_cons, List.map_nil]; rfl) ?_
  with_reducible refine (clone_calls s _ HS.out).mono ?_
  rintro e w2 ⟨rfl, hb2⟩
  refine ⟨_, rfl, ?_⟩
  have B2 := Aside0.mk (blk_below (w := w.drew) B0.out hb2)
  have V2 := Aside0.mk (Kd.R_below (w := w.drew) V0.out hb2)
  have W2 := Aside0.mk (W0.out.trans (below_drew_l (hb2.mono (show b ≤ w.heap.size from Nat.le_of_lt (blk_lt B0.out)))))
  have HM_ : Aside0 (Kd.string.M w2 (b + 1) (fun _ => True) s [.string s]) := ⟨rfl⟩
  have HBS := Aside0.mk (show b + 1 ≤ w2.heap.size from blk_lt B2.out)
  clear hb2 c0
  refine hK.out _ _ (cellAt B2.out 0 rfl) (fun hHeld => ?_)
  clear hK K
  refine norm_ (a' := ?_) ?_ ?_
  rotate_left
  · show Act.put _ (some 6) _ = _
    simp only [Act.put, List.setIfInBounds_toArray, List.set_cons_zero, List.set_cons_succ, i64_w, i32_w]
    rfl
  refine one_ (i := 3) (N := some 7) #[true, true, true, true, false, false] rfl rfl (by kernel_rfl) (by decide) (fun K hK => ?_)
  refine value_ (w1 := ?_) (v := ?_) (by rfl) rfl ?_ ?_
  rotate_left 2
  · go_simp
    constructor
    · rfl
    · rfl
  refine hK.out _ _ (cellAt (blk_alloc B2.out _) 0 rfl) (fun hHeld => ?_)
  clear hK K
  refine norm_ (a' := ?_) ?_ ?_
  rotate_left
  · show Act.put _ (some 7) _ = _
    simp only [Act.put, List.setIfInBounds_toArray, List.set_cons_zero, List.set_cons_succ, i64_w, i32_w]
    rfl
  refine last_ (i := 4) (N := some 8) #[true, true, true, true, true, false] rfl rfl (by kernel_rfl) (by decide) (fun K hK => ?_)
  refine Kd.R_append_step Kd.string (w0 := w2) (b + 1) (by rfl) (.tmp 4) (.tmp 7) 51 9 (.string ⟨#[]⟩) 16 rfl Try.underlying51 infoStr rfl (by decide) (by decide) (.slice A1 acc.length c1) acc s [.string s] (fun _ => True) (fun k => True ∧ some k ≠ (Value.slice A1 acc.length c1).ownBlock) rfl rfl rfl (fun _ hk => hk) (fun _ _ => trivial) V2.out (Below.refl _ _) HBS.out (by have := HL.out; omega) ?_
  intro v1 w7 hO hB hG hat
  obtain ⟨A7, c7, rfl⟩ := Kd.R_slice hO
  have O7 := Aside0.mk hO
  have hbb := Aside0.mk (fun k hk => Kd.R_base V2.out k hk : ∀ k, (Value.slice A1 acc.length c1).ownBlock = some k → b + 1 ≤ k)
  have W7 := Aside0.mk (W2.out.grown hG (by have := blk_lt B2.out; omega) (fun k hk => by have := hbb.out k hk; omega))
  have B7 := Aside0.mk (blk_grown B2.out hG (fun e => by have := hbb.out _ e.symm; omega))
  have m0 := cellAt B7.out 0 rfl
  have y0 := blk_frozen B7.out 0
  clear hO hB hG hat
  refine hK.out _ _ ?_
  clear hK K
  refine norm_ (a' := ?_) ?_ ?_
  rotate_left
  · show Act.put _ (some 8) _ = _
    simp only [Act.put, List.setIfInBounds_toArray, List.set_cons_zero, List.set_cons_succ, i64_w, i32_w]
    rfl
  refine last_ (i := 5) (N := none) #[true, true, true, true, true, true] rfl rfl (by kernel_rfl) (by decide) (fun K hK => ?_)
  refine skip_ (w1 := ?_) (by rfl) rfl ?_ ?_
  rotate_left
  · go_simp
    rfl
  refine hK.out _ _ ?_
  clear hK K
  refine done_ (by kernel_rfl) ?_
  clear hHeld
  go_wp2
  go_ret
  refine ⟨rfl, .slice A7 (acc ++ [s]).length c7, ?_, ?_, ?_⟩
  · have := blk_set B7.out 0 (.slice A7 (acc ++ [s]).length c7)
    simpa using this
  · have e1 : (acc ++ [s]).length = acc.length + 1 := by simp
    rw [← e1]
    exact Kd.R_mono (Kd.R_far (p := ⟨b, 0, none⟩) (Kd.R_bound O7.out) (fun k hk e => by have := hk.2.1; dsimp only at e; omega) _) (fun _ _ => trivial)
  · exact W7.out.setCell (p := ⟨b, 0, none⟩) (Nat.le_refl _) _
set_option maxHeartbeats 4000000 in
set_option maxRecDepth 100000 in
theorem refs_calls : ∀ (N : Nat) (x : S48) (A : Option Addr) (c : Nat) (w0 w : World) (b : Nat) (acc : List ByteArray), SizeOf.sizeOf x < N → textN x = true → k48.C w0 A x.f2.length x.f2 → x.f2.length ≤ c → OutR w0 b acc w → w0.heap.size ≤ b → acc.length + (refsN x).length ≤ 1000000 →
    Calls Try.prog 31 #[.agg #[.int .i64 x.f0, .string x.f1, .slice A x.f2.length c], .func (.func 32) #[] #[.pointer (some ⟨b, 0, none⟩)]] w fun e w' => e = .returned (.bool true) ∧ OutR w0 b (acc ++ refsN x) w'
  | 0, _, _, _, _, _, _, _, h, _, _, _, _, _, _ => by omega
  | N + 1, ⟨k, t, l⟩, A, c, w0, w, b, acc, hN, ht, hA, hc, ho, hb, hn => by
    have HO := Aside0.mk ho
    have HA := Aside0.mk hA
    have HB := Aside0.mk hb
    have HN := Aside0.mk hN
    have HT := Aside0.mk ht
    have HM := Aside0.mk (Kd.C_max hA)
    have IH := Aside0.mk (refs_calls N)
    have BX := blk_new w (.cells #[.int .i64 k, .string t, .slice A l.length c] 48)
    have x0 := cellAt BX 0 rfl
    have x1 := cellAt BX 1 rfl
    have x2 := cellAt BX 2 rfl
    simp only at hA hc hn ⊢
    by_cases hk : k = 1
    · have e0 : refsN ⟨k, t, l⟩ = [t] := by unfold refsN; rw [if_pos hk]
      have b0 : (k == 1) = true := beq_iff_eq.mpr hk
      rw [e0] at hn ⊢
      have HL := Aside0.mk hn
      have HTS : Aside0 (t.size ≤ 1000000) := ⟨by have := HT.out; unfold textN at this; simp only [Bool.and_eq_true, decide_eq_true_eq] at this; exact this.1⟩
      clear ho hA hb hN ht hc hn BX hk e0
      go_enter Try.func31, Try.ntmps31
      go_wp2_with (fail)
      refine (yield_calls (HO.out.alloc _) HTS.out (by have := HL.out; simpa using this)).mono ?_
      rintro e w1 ⟨rfl, h1⟩
      have H1 := Aside0.mk h1
      clear h1
      go_wp2
      go_ret
      exact ⟨rfl, H1.out⟩
    · have e0 : refsN ⟨k, t, l⟩ = refsL l := by unfold refsN; rw [if_neg hk]
      have b0 : (k == 1) = false := beq_eq_false_iff_ne.mpr hk
      rw [e0] at hn ⊢
      have HL := Aside0.mk hn
      clear ho hA hb hN ht hc hn BX hk e0
      go_enter Try.func31, Try.ntmps31
      go_wp2_with (fail)
      go_loopg [17] (l.length + 1) (fun k s17 wr => ∃ i : Nat, s17 = .int .i64 i ∧ i + k = l.length + 1 ∧ OutR w0 b (acc ++ refsL (l.take i)) wr)
      case atStart => exact ⟨0, rfl, by omega, by simpa [refsL] using HO.out.alloc _⟩
      case round =>
        obtain ⟨i, rfl, hi, hr⟩ := hrel
        have KR := Aside0.mk hr
        by_cases hlt : i < l.length
        · have hlt' : (i : Int) < (l.length : Int) := by omega
          have hB : Below w0.heap.size w0 wr := by
            obtain ⟨_, _, _, h3⟩ := hr
            exact h3.mono HB.out
          obtain ⟨ad, A2, c2, rfl, hx0, hx1, hx2, hxl, hxC⟩ := at_T48 HA.out (i : Int) (by omega) hlt'
          simp only [Int.toNat_natCast] at hx0 hx1 hx2
          replace hx0 := pw_cell_below hB hx0
          replace hx1 := pw_cell_below hB hx1
          replace hx2 := pw_cell_below hB hx2
          have HXC := Aside0.mk hxC
          have HXL := Aside0.mk hxl
          have hmem : rd_T48 l i ∈ l := by
            have e : rd_T48 l i = l[i] := by simp [rd_T48, hlt]
            rw [e]
            exact List.getElem_mem hlt
          have HSM : Aside0 (SizeOf.sizeOf (rd_T48 l i) < N) := ⟨by
            have := List.sizeOf_lt_of_mem hmem
            have h2 := HN.out
            simp at h2
            omega⟩
          have HTX : Aside0 (textN (rd_T48 l i) = true) := ⟨by
            have := HT.out
            unfold textN at this
            simp only [Bool.and_eq_true] at this
            exact textL_mem this.2 hmem⟩
          have HSP := Aside0.mk (refsL_split hlt)
          have HST := Aside0.mk (refsL_take hlt)
          clear hxC hxl hr hB hmem
          go_wp2_with (fail)
          refine (IH.out (rd_T48 l i) A2 c2 w0 _ b _ HSM.out HTX.out HXC.out HXL.out (KR.out.alloc _) HB.out (by have := HSP.out; have := HL.out; simp only [List.length_append]; omega)).mono ?_
          rintro e w5 ⟨rfl, h5⟩
          have H5 := Aside0.mk h5
          clear h5
          go_wp2_with (fail)
          go_roundg (l.length - i)
          case measure => omega
          case rel =>
            have hmax := HM.out
            exact ⟨i + 1, by congr 1; unfold wrap64; omega, by omega, by rw [HST.out, ← List.append_assoc]; exact H5.out⟩
        · have hge : (l.length : Int) ≤ i := by omega
          have e1 : l.take i = l := List.take_of_length_le (by omega)
          rw [e1] at KR
          clear hr e1
          go_wp2_with (fail)
          go_ret
          exact ⟨rfl, KR.out⟩
set_option maxHeartbeats 4000000 in
set_option maxRecDepth 100000 in
theorem Refs_calls (x : S48) (A : Option Addr) (c : Nat) (w : World) (ht : textN x = true) (hA : k48.C w A x.f2.length x.f2) (hc : x.f2.length ≤ c) (hn : (refsN x).length ≤ 1000000) :
    Calls Try.prog 20 #[.agg #[.int .i64 x.f0, .string x.f1, .slice A x.f2.length c]] w fun e w' => ∃ v, e = .returned v ∧ Kd.R Kd.string 9 w' w.heap.size (fun _ => True) v (refsN x) ∧ Below w.heap.size w w' := by
  have hmf : ∀ (fn : Fn) (first cap : Array Value) (w : World), (Instr.makeFunc fn first cap).run Try.prog w = .ok (.func fn first cap) w := fun _ _ _ _ => rfl
  have HT := Aside0.mk ht
  have HA := Aside0.mk hA
  have HC := Aside0.mk hc
  have HN := Aside0.mk hn
  have BX := blk_alloc (blk_new w (.cells #[.int .i64 x.f0, .string x.f1, .slice A x.f2.length c] 48)) (.cells #[.slice none 0 0] 51)
  have x0 := cellAt BX 0 rfl
  have x1 := cellAt BX 1 rfl
  have x2 := cellAt BX 2 rfl
  have HO : Aside0 (OutR (w.alloc (.cells #[.int .i64 x.f0, .string x.f1, .slice A x.f2.length c] 48)) (w.heap.size + 1) [] ((w.alloc (.cells #[.int .i64 x.f0, .string x.f1, .slice A x.f2.length c] 48)).alloc (.cells #[.slice none 0 0] 51))) :=
    ⟨⟨.slice none 0 0, by have := blk_new (w.alloc (.cells #[.int .i64 x.f0, .string x.f1, .slice A x.f2.length c] 48)) (.cells #[.slice none 0 0] 51); rwa [World.size_alloc] at this, Kd.R_nil _ _ _ _ _, (Below.refl _ _).alloc (by simp) _⟩⟩
  clear ht hA hc hn BX
  go_enter Try.func20, Try.ntmps20
  go_wp2_with (fail)
  refine (refs_calls (SizeOf.sizeOf x + 1) x A c (w.alloc (.cells #[.int .i64 x.f0, .string x.f1, .slice A x.f2.length c] 48)) _ (w.heap.size + 1) [] (Nat.lt_succ_self _) HT.out (Kd.C_alloc HA.out _) HC.out HO.out (by simp) (by have := HN.out; simpa using this)).mono ?_
  rintro e w3 ⟨rfl, v, hb, hv, hB⟩
  rw [List.nil_append] at hv
  have c0 := cellAt hb 0 rfl
  have HV := Aside0.mk hv
  have HB := Aside0.mk hB
  clear hb hv hB
  go_wp2
  go_ret
  exact ⟨_, rfl, Kd.R_lower HV.out (by omega), ((Below.refl w.heap.size w).alloc (Nat.le_refl _) _).trans (HB.out.mono (Nat.le_succ _))⟩
end
end Go.Proofs.Ytdbkooliafkcgaa.Yw
