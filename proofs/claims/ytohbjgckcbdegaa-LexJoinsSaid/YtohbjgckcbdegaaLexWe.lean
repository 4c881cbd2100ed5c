/- The walk of package lex: name. -/
import Derived.Test.YtohbjgckcbdegaaLexWd
import Derived.Deep.DeepCutAuto
set_option linter.unusedVariables false
set_option linter.unusedSimpArgs false
namespace Go.Proofs.Ytohbjgckcbdegaa.Lw
open Go.RowKit Go.Proofs.YtohbjgckcbdegaaW.PrintWords Go.Proofs.YtohbjgckcbdegaaW.PrintLast Go.Proofs.YtohbjgckcbdegaaW.PrintMore Go.Proofs.Ytohbjgckcbdegaa

/-- A token's box. -/
def BoxAt (w wx : World) (bx : Nat) (k l c : Int) (t : ByteArray) : Prop :=
  wx.heap[bx]? = some (.cells #[.int .i64 k, .string t, .int .i64 l, .int .i64 c] 31 (0, 0)) ∧ w.heap.size ≤ bx
def NameCut (w : World) (g : Nat) (s : ByteArray) (a line col : Int) (v : Value) (f5 f6 f7 : Int) (s3 s4 : Value) (wx : World) : Prop :=
  ∃ bx : Nat, s3 = .pointer (some ⟨bx, 0, none⟩) ∧ s4 = .int .i64 a ∧ BoxAt w wx bx 1 line col ⟨#[]⟩ ∧ Scn wx g s a line col v f5 f6 f7 ∧ w.grownBy wx none
def nm (s : ByteArray) (a : Int) : Bool := match suf s a with
  | [] => false
  | c :: _ => Lx.inName c
theorem nm_yes {s : ByteArray} {a : Int} (h0 : 0 ≤ a) (h1 : a < s.size) : ∃ c, suf s a = c :: suf s (a + 1) ∧ bt s a = c.toNat ∧ nm s a = Lx.inName c := by
  obtain ⟨c, h2, h3⟩ := suf_cons h0 h1
  exact ⟨c, h2, h3, by unfold nm; rw [h2]⟩
theorem nm_no {s : ByteArray} {a : Int} (h1 : (s.size : Int) ≤ a) : nm s a = false := by unfold nm; rw [suf_nil h1]
def NameR (w : World) (g : Nat) (s : ByteArray) (a line col : Int) (v : Value) (f5 f6 f7 : Int) (bx k : Nat) (wr : World) : Prop :=
  ∃ a' l' c' : Int, BoxAt w wr bx 1 line col ⟨#[]⟩ ∧ Scn wr g s a' l' c' v f5 f6 f7 ∧ w.grownBy wr (some g) ∧ At s a' l' c' ∧ a ≤ a' ∧ (s.size : Int) - a' < k ∧
    (Lx.nameL (suf s a) (line, col)).1 = (s.extract a.toNat a'.toNat).data.toList ++ (Lx.nameL (suf s a') (l', c')).1 ∧ (Lx.nameL (suf s a) (line, col)).2 = (Lx.nameL (suf s a') (l', c')).2
def nameRes (l : List UInt8) (p : Int × Int) : Except Lx.Flt (Lx.Tok × List UInt8 × (Int × Int)) :=
  if (Lx.nameL l p).1.length > 32 then .error ⟨p, 6⟩ else .ok (⟨1, (Lx.nameL l p).1, p⟩, (Lx.nameL l p).2)
theorem BoxAt.far {w wx w3 : World} {bx g : Nat} {k l c : Int} {t : ByteArray} (h : BoxAt w wx bx k l c t) (hg : wx.grownBy w3 (some g)) (hlt : g < w.heap.size) : BoxAt w w3 bx k l c t :=
  ⟨blk_grown h.1 hg (by have := h.2; simp; omega), h.2⟩
theorem extract_snoc {s : ByteArray} {a b : Int} {c : UInt8} (h0 : 0 ≤ a) (h1 : a ≤ b) (h2 : b < s.size) (hc : suf s b = c :: suf s (b + 1)) : (s.extract a.toNat (b + 1).toNat).data.toList = (s.extract a.toNat b.toNat).data.toList ++ [c] := by
  have e1 := suf_cut h0 h1 (show b ≤ s.size by omega)
  have e2 := suf_cut h0 (show a ≤ b + 1 by omega) (show b + 1 ≤ s.size by omega)
  rw [hc, ← e2] at e1
  have : (s.extract a.toNat b.toNat).data.toList ++ [c] ++ suf s (b + 1) = (s.extract a.toNat (b + 1).toNat).data.toList ++ suf s (b + 1) := by simpa using e1
  exact (List.append_cancel_right this).symm

set_option maxHeartbeats 1000000 in
set_option maxRecDepth 100000 in
theorem name_calls {b g : Nat} {s : ByteArray} {a line col : Int} {v : Value} {xs : List Value} {n : Nat} {f5 f6 f7 : Int} {w : World} (hb : Scs b w g s a line col v xs n f5 f6 f7) (hA : At s a line col) (hn : n ≤ 1000000) :
    Calls Try.prog 30 #[.pointer (some ⟨g, 0, none⟩)] w (TokP b w g s xs n f5 f6 f7 (nameRes (suf s a) (line, col))) := by
  have HB := Aside0.mk hb
  have HA := Aside0.mk hA
  have hS : Scn w g s a line col v f5 f6 f7 := hb.scn
  have x1 : w.cell? ⟨g, 1, none⟩ = some (.int .i64 a) := (blk_cell hS 1).trans rfl
  have HS := Aside0.mk hS
  have hlt := hS.lt
  have hge := hb.ge
  have q0 := hA.a0
  clear hb hA hS
  obtain ⟨i0, hi0, hz0, hz1, hz2⟩ := info_parts infoTok
  have HI := Aside0.mk (And.intro hz0 (And.intro hz1 hz2))
  clear hz0 hz1 hz2
  go_enter Try.func30, Try.ntmps30
  go_upto_region 1 with fail
  go_cut [3, 4] (fun s3 s4 wx => NameCut w g s a line col v f5 f6 f7 s3 s4 wx)
  case first =>
    have SF : ∀ q w2, BoxAt w w2 q 0 0 0 ⟨#[]⟩ → Scn w2 g s a line col v f5 f6 f7 → Scn ((((w2.setCell ⟨q, 0, none⟩ (.int .i64 1)).setCell ⟨q, 1, none⟩ (.string ⟨#[]⟩)).setCell ⟨q, 2, none⟩ (.int .i64 line)).setCell ⟨q, 3, none⟩ (.int .i64 col)) g s a line col v f5 f6 f7 ∧
        ((((w2.setCell ⟨q, 0, none⟩ (.int .i64 1)).setCell ⟨q, 1, none⟩ (.string ⟨#[]⟩)).setCell ⟨q, 2, none⟩ (.int .i64 line)).setCell ⟨q, 3, none⟩ (.int .i64 col)).cell? ⟨g, 1, none⟩ = some (.int .i64 a) := by
      intro q w2 hX hS2
      have hne : g ≠ q := by have := hX.2; omega
      have h := blk_far (p := ⟨q, 3, none⟩) (blk_far (p := ⟨q, 2, none⟩) (blk_far (p := ⟨q, 1, none⟩) (blk_far (p := ⟨q, 0, none⟩) hS2 hne (.int .i64 1)) hne (.string ⟨#[]⟩)) hne (.int .i64 line)) hne (.int .i64 col)
      exact ⟨h, (blk_cell h 1).trans rfl⟩
    refine start_ (n := 9) (S := fun w' => Scn w' g s a line col v f5 f6 f7 ∧ w'.cell? ⟨g, 1, none⟩ = some (.int .i64 a)) (ds := []) #[false, false, false, false, false, false, false, false, false] (by kernel_rfl) rfl rfl ⟨HS.out, x1⟩ (fun hHeld => ?_)
    refine pure_ (i := 0) (N := some 5) (v := ?_) (a' := ?_) #[true, false, false, false, false, false, false, false, false] rfl rfl (by kernel_rfl) (fun _ _ _ h => h) (Or.inl ⟨by rfl, ?_⟩) ?_ ?_
    rotate_left
    · intro w'
      go_simp
      with_reducible rfl
    rotate_left
    · simp only [Act.put, List.setIfInBounds_toArray, List.set_cons_zero, List.set_cons_succ, i64_w, i32_w]
      rfl
    refine pure_ (i := 2) (N := some 7) (v := ?_) (a' := ?_) #[true, false, true, false, false, false, false, false, false] rfl rfl (by kernel_rfl) (fun _ _ _ h => h) (Or.inl ⟨by rfl, ?_⟩) ?_ ?_
    rotate_left
    · intro w'
      go_simp
      with_reducible rfl
    rotate_left
    · simp only [Act.put, List.setIfInBounds_toArray, List.set_cons_zero, List.set_cons_succ, i64_w, i32_w]
      rfl
    refine pure_ (i := 3) (N := some 8) (v := ?_) (a' := ?_) #[true, false, true, true, false, false, false, false, false] rfl rfl (by kernel_rfl) (fun _ _ _ h => h) (Or.inl ⟨by rfl, ?_⟩) ?_ ?_
    rotate_left
    · intro w'
      go_simp
      with_reducible rfl
    rotate_left
    · simp only [Act.put, List.setIfInBounds_toArray, List.set_cons_zero, List.set_cons_succ, i64_w, i32_w]
      rfl
    refine pure_ (i := 4) (N := some 9) (v := ?_) (a' := ?_) #[true, false, true, true, true, false, false, false, false] rfl rfl (by kernel_rfl) (fun _ _ _ h => h) (Or.inl ⟨by rfl, ?_⟩) ?_ ?_
    rotate_left
    · intro w'
      go_simp
      with_reducible rfl
    rotate_left
    · simp only [Act.put, List.setIfInBounds_toArray, List.set_cons_zero, List.set_cons_succ, i64_w, i32_w]
      rfl
    refine take_ (i := 5) (N := some 10) (v := ?_) (a' := ?_) #[true, false, true, true, true, true, false, false, false] rfl rfl (by kernel_rfl) (fun _ _ _ h => h) (Or.inl ⟨by rfl, ?_⟩) hHeld ?_ ?_
    rotate_left
    · rintro w' ⟨s0, s1⟩
      go_simp
      with_reducible rfl
    rotate_left
    · simp only [Act.put, List.setIfInBounds_toArray, List.set_cons_zero, List.set_cons_succ, i64_w, i32_w]
      rfl
    refine join_ (σ := Nat) 2 #[true, true, true, true, true, true, true, false, false] (fun q => [(6, .agg #[.int .i64 1, .string ⟨#[]⟩, .int .i64 line, .int .i64 col]), (3, .pointer (some ⟨q, 0, none⟩))]) (fun q w2 => BoxAt w w2 q 0 0 0 ⟨#[]⟩ ∧ Scn w2 g s a line col v f5 f6 f7 ∧ w.grownBy w2 none) ?_ ?_
    rotate_left
    · intro hCont
      refine two_ (i := 1) (j := 6) (Ni := some 6) (Nj := some 3) #[true, true, true, true, true, true, false, false, false] #[true, false, true, true, true, true, true, false, false] rfl rfl rfl rfl (by kernel_rfl) (by decide) (by decide) (fun K hK => ?_) (fun K hK => ?_)
      · skip
        refine goes_ Try.func20 (by kernel_rfl) rfl #[.pointer (some ⟨g, 0, none⟩), .int .i64 1] (by rfl) rfl rfl (by simp only [List.map_toArray, List.map_cons, List.map_nil]; rfl) ?_
        with_reducible refine (here_scn hHeld.1 1).mono ?_
        rintro e w1 ⟨rfl, hg1, hS1⟩
        refine ⟨_, rfl, ?_⟩
        refine hK.out _ _ ⟨hS1, ((blk_cell hS1 1).trans rfl)⟩ (fun hHeld => ?_)
        clear hK K
        refine norm_ (a' := ?_) ?_ ?_
        rotate_left
        · show Act.put _ (some 6) _ = _
          simp only [Act.put, List.setIfInBounds_toArray, List.set_cons_zero, List.set_cons_succ, i64_w, i32_w]
          rfl
        refine one_ (i := 6) (N := some 3) #[true, true, true, true, true, true, true, false, false] rfl rfl (by kernel_rfl) (by decide) (fun K hK => ?_)
        refine value_ (w1 := ?_) (v := ?_) (by rfl) rfl ?_ ?_
        rotate_left 2
        · go_simp
          constructor
          · rfl
          · rfl
        refine hK.out _ _ ⟨(hS1.alloc _), ((blk_cell (hS1.alloc _) 1).trans rfl)⟩ (fun hHeld => ?_)
        clear hK K
        refine norm_ (a' := ?_) ?_ ?_
        rotate_left
        · show Act.put _ (some 3) _ = _
          simp only [Act.put, List.setIfInBounds_toArray, List.set_cons_zero, List.set_cons_succ, i64_w, i32_w]
          rfl
        exact norm_ (by simp only [putAll, Act.put, List.setIfInBounds_toArray, List.set_cons_zero, List.set_cons_succ]) (hCont w1.heap.size _ ⟨⟨blk_new w1 (.cells #[.int .i64 0, .string ⟨#[]⟩, .int .i64 0, .int .i64 0] 31), hg1.size⟩, hS1.alloc _, grown_alloc (grown_from hg1) _⟩)
      · skip
        refine value_ (w1 := ?_) (v := ?_) (by rfl) rfl ?_ ?_
        rotate_left 2
        · go_simp
          constructor
          · rfl
          · rfl
        refine hK.out _ _ ⟨(HS.out.drew.alloc _), ((blk_cell (HS.out.drew.alloc _) 1).trans rfl)⟩ (fun hHeld => ?_)
        clear hK K
        refine norm_ (a' := ?_) ?_ ?_
        rotate_left
        · show Act.put _ (some 3) _ = _
          simp only [Act.put, List.setIfInBounds_toArray, List.set_cons_zero, List.set_cons_succ, i64_w, i32_w]
          rfl
        refine one_ (i := 1) (N := some 6) #[true, true, true, true, true, true, true, false, false] rfl rfl (by kernel_rfl) (by decide) (fun K hK => ?_)
        refine goes_ Try.func20 (by kernel_rfl) rfl #[.pointer (some ⟨g, 0, none⟩), .int .i64 1] (by rfl) rfl rfl (by simp only [List.map_toArray, List.map_cons, List.map_nil]; rfl) ?_
        with_reducible refine (here_scn hHeld.1 1).mono ?_
        rintro e w1 ⟨rfl, hg1, hS1⟩
        refine ⟨_, rfl, ?_⟩
        refine hK.out _ _ ⟨hS1, ((blk_cell hS1 1).trans rfl)⟩ (fun hHeld => ?_)
        clear hK K
        refine norm_ (a' := ?_) ?_ ?_
        rotate_left
        · show Act.put _ (some 6) _ = _
          simp only [Act.put, List.setIfInBounds_toArray, List.set_cons_zero, List.set_cons_succ, i64_w, i32_w]
          rfl
        exact norm_ (by simp only [putAll, Act.put, List.setIfInBounds_toArray, List.set_cons_zero, List.set_cons_succ]) (hCont w.heap.size _ ⟨⟨blk_grown (blk_drew (blk_new w (.cells #[.int .i64 0, .string ⟨#[]⟩, .int .i64 0, .int .i64 0] 31))) hg1 (by simp), Nat.le_refl _⟩, hS1, (grown_drew (grown_alloc (grown_refl w none) _)).trans hg1⟩)
    rintro q w2 ⟨hX, hS2, hG2⟩
    have hHeld : Scn w2 g s a line col v f5 f6 f7 ∧ w2.cell? ⟨g, 1, none⟩ = some (.int .i64 a) := ⟨hS2, (blk_cell hS2 1).trans rfl⟩
    have HX := Aside0.mk hX
    have HS2 := Aside0.mk hS2
    have HG2 := Aside0.mk hG2
    have y0 := (blk_cell hX.1 0).trans rfl
    have y1 := (blk_cell hX.1 1).trans rfl
    have y2 := (blk_cell hX.1 2).trans rfl
    have y3 := (blk_cell hX.1 3).trans rfl
    have z0 := blk_frozen hX.1 0
    have z1 := blk_frozen hX.1 1
    have z2 := blk_frozen hX.1 2
    have z3 := blk_frozen hX.1 3
    clear hX hS2 hG2
    refine norm_ (a' := ?_) ?_ ?_
    rotate_left
    · simp only [putAll, Act.put, List.setIfInBounds_toArray, List.set_cons_zero, List.set_cons_succ]
      rfl
    refine one_ (i := 7) (N := none) #[true, true, true, true, true, true, true, true, false] rfl rfl (by kernel_rfl) (by decide) (fun K hK => ?_)
    refine skip_ (w1 := ?_) (by rfl) rfl ?_ ?_
    rotate_left
    · go_simp
      rfl
    refine hK.out _ _ ⟨(SF q w2 HX.out HS2.out).1, (SF q w2 HX.out HS2.out).2⟩ (fun hHeld => ?_)
    clear hK K
    refine pure_ (i := 8) (N := some 4) (v := ?_) (a' := ?_) #[true, true, true, true, true, true, true, true, true] rfl rfl (by kernel_rfl) (fun _ _ _ h => h) (Or.inl ⟨by rfl, ?_⟩) ?_ ?_
    rotate_left
    · intro w'
      go_simp
      with_reducible rfl
    rotate_left
    · simp only [Act.put, List.setIfInBounds_toArray, List.set_cons_zero, List.set_cons_succ, i64_w, i32_w]
      rfl
    refine done_ (by kernel_rfl) ?_
    go_wp2_with fail
    go_meet
    case rel => exact ⟨q, rfl, rfl, ⟨box_store HX.out.1 _ _ _ _, HX.out.2⟩, (SF q w2 HX.out HS2.out).1, grown_setNew (grown_setNew (grown_setNew (grown_setNew HG2.out HX.out.2 _) HX.out.2 _) HX.out.2 _) HX.out.2 _⟩
  case rest =>
    obtain ⟨bx, rfl, rfl, hX, hS, hG⟩ := hcut
    have KX := Aside0.mk hX
    have KS := Aside0.mk hS
    have KG := Aside0.mk hG
    have hbx := hX.2
    clear hX hS hG x1
    go_wp2_with fail
    go_loopg [] (s.size + 1) (fun k wr => NameR w g s a line col v f5 f6 f7 bx k wr)
    case atStart => exact ⟨a, line, col, KX.out, KS.out, grown_some KG.out _, HA.out, Int.le_refl _, by omega, by simp, rfl⟩
    case round =>
      obtain ⟨a', l', c', hX, hS, hG, hT, ha', hk', hr1, hr2⟩ := hrel
      have LX := Aside0.mk hX
      have LS := Aside0.mk hS
      have LG := Aside0.mk hG
      have LT := Aside0.mk hT
      have LR := Aside0.mk (And.intro hr1 hr2)
      have q0' := hT.a0
      have q1' := hT.a1
      clear hX hS hG hT hr1 hr2
      go_upto_region 2 with fail
      go_cut [24] (fun s24 wx => s24 = .bool (nm s a') ∧ ∃ m, wr.drewN m = wx)
      case first =>
        by_cases hlt' : a' < (s.size : Int)
        · obtain ⟨c, hc, hbt, hnm⟩ := nm_yes q0' hlt'
          have hin := inName_calls c (bt s a') hbt
          rw [← hnm] at hin
          have HIN := Aside0.mk hin
          clear hc hbt hnm hin
          have h0 := (blk_cell LS.out 0).trans rfl
          have h1 := (blk_cell LS.out 1).trans rfl
          have p4 : (0 ≤ a') = True := eq_true q0'
          have q4 : (a' < (s.size : Int)) = True := eq_true hlt'
          have hx4 := bt_at s a'
          go_quiet ((first | (go_at_call 18; exact quiet_any (more_yes (LS.out.drewN _) hlt')) | (go_at_call 22; exact quiet_eq (HIN.out _))))
          go_wp2_with fail
          go_meet
          case rel => exact ⟨by simp, _, rfl⟩
        · have hle : (s.size : Int) ≤ a' := by omega
          clear hlt'
          have HN := Aside0.mk (nm_no hle)
          go_quiet ((go_at_call 18; exact quiet_any (more_no (LS.out.drewN _) hle)))
          go_wp2_with fail
          go_meet
          case rel => exact ⟨by rw [HN.out], _, rfl⟩
      case rest =>
        obtain ⟨hv, m, hm⟩ := hcut
        subst hv
        have MS : Aside0 (Scn wc g s a' l' c' v f5 f6 f7) := ⟨by rw [← hm]; exact LS.out⟩
        have MG : Aside0 (w.grownBy wc (some g)) := ⟨by rw [← hm]; exact grown_drewN LG.out _⟩
        have MX : Aside0 (BoxAt w wc bx 1 line col ⟨#[]⟩) := ⟨by rw [← hm]; exact LX.out⟩
        clear hm
        cases hd : nm s a' with
        | true =>
          have hlt' : a' < (s.size : Int) := by
            rcases Int.lt_or_le a' s.size with h | h
            · exact h
            · rw [nm_no h] at hd; cases hd
          obtain ⟨c, hc, hbt, hnm⟩ := nm_yes q0' hlt'
          have HC := Aside0.mk (And.intro hc (And.intro hbt (hnm.symm.trans hd)))
          clear hc hbt hnm hd
          go_wp2_with (go_at_call 29; refine (step_calls MS.out LT.out hlt' c HC.out.2.1).mono ?_; rintro e w3 ⟨rfl, hS3, hG3⟩)
          go_roundg (((s.size : Int) - (a' + 1)).toNat + 1)
          case measure => omega
          case rel =>
            refine ⟨a' + 1, _, _, MX.out.far hG3 hlt, hS3, MG.out.trans hG3, LT.out.step hlt' c, by omega, by omega, ?_, ?_⟩
            · rw [LR.out.1, extract_snoc q0 ha' hlt' HC.out.1, HC.out.1]
              simp [Lx.nameL, HC.out.2.2]
            · rw [LR.out.2, HC.out.1]
              simp [Lx.nameL, HC.out.2.2]
        | false =>
          have hend : Lx.nameL (suf s a') (l', c') = ([], suf s a', (l', c')) := by
            rcases Int.lt_or_le a' s.size with h | h
            · obtain ⟨c, hc, hbt, hnm⟩ := nm_yes q0' h
              rw [hd] at hnm
              rw [hc]
              simp [Lx.nameL, ← hnm]
            · rw [suf_nil h]; rfl
          have HE := Aside0.mk hend
          clear hend hd
          go_wp2_with fail
          have x0 := (blk_cell MS.out 0).trans rfl
          have x1 := (blk_cell MS.out 1).trans rfl
          have x2 := (blk_cell MX.out.1 1).trans rfl
          have x3 := blk_frozen MX.out.1 1
          refine start_ (n := 12) (S := fun w' => w'.cell? ⟨g, 0, none⟩ = some (.string s) ∧ w'.cell? ⟨g, 1, none⟩ = some (.int .i64 a')) (ds := [11]) #[false, false, false, false, false, false, false, false, false, false, false, false] (by kernel_rfl) rfl rfl ⟨x0, x1⟩ (fun hHeld => ?_)
          refine pure_ (i := 0) (N := some 27) (v := ?_) (a' := ?_) #[true, false, false, false, false, false, false, false, false, false, false, false] rfl rfl (by kernel_rfl) (fun _ _ _ h => h) (Or.inl ⟨by rfl, ?_⟩) ?_ ?_
          rotate_left
          · intro w'
            go_simp
            with_reducible rfl
          rotate_left
          · simp only [Act.put, List.setIfInBounds_toArray, List.set_cons_zero, List.set_cons_succ, i64_w, i32_w]
            rfl
          refine pure_ (i := 1) (N := some 28) (v := ?_) (a' := ?_) #[true, true, false, false, false, false, false, false, false, false, false, false] rfl rfl (by kernel_rfl) (fun _ _ _ h => h) (Or.inl ⟨by rfl, ?_⟩) ?_ ?_
          rotate_left
          · intro w'
            go_simp
            with_reducible rfl
          rotate_left
          · simp only [Act.put, List.setIfInBounds_toArray, List.set_cons_zero, List.set_cons_succ, i64_w, i32_w]
            rfl
          refine pure_ (i := 2) (N := some 29) (v := ?_) (a' := ?_) #[true, true, true, false, false, false, false, false, false, false, false, false] rfl rfl (by kernel_rfl) (fun _ _ _ h => h) (Or.inl ⟨by rfl, ?_⟩) ?_ ?_
          rotate_left
          · intro w'
            go_simp
            with_reducible rfl
          rotate_left
          · simp only [Act.put, List.setIfInBounds_toArray, List.set_cons_zero, List.set_cons_succ, i64_w, i32_w]
            rfl
          refine pure_ (i := 4) (N := some 31) (v := ?_) (a' := ?_) #[true, true, true, false, true, false, false, false, false, false, false, false] rfl rfl (by kernel_rfl) (fun _ _ _ h => h) (Or.inl ⟨by rfl, ?_⟩) ?_ ?_
          rotate_left
          · intro w'
            go_simp
            with_reducible rfl
          rotate_left
          · simp only [Act.put, List.setIfInBounds_toArray, List.set_cons_zero, List.set_cons_succ, i64_w, i32_w]
            rfl
          refine pure_ (i := 5) (N := some 32) (v := ?_) (a' := ?_) #[true, true, true, false, true, true, false, false, false, false, false, false] rfl rfl (by kernel_rfl) (fun _ _ _ h => h) (Or.inl ⟨by rfl, ?_⟩) ?_ ?_
          rotate_left
          · intro w'
            go_simp
            with_reducible rfl
          rotate_left
          · simp only [Act.put, List.setIfInBounds_toArray, List.set_cons_zero, List.set_cons_succ, i64_w, i32_w]
            rfl
          refine pure_ (i := 6) (N := some 33) (v := ?_) (a' := ?_) #[true, true, true, false, true, true, true, false, false, false, false, false] rfl rfl (by kernel_rfl) (fun _ _ _ h => h) (Or.inl ⟨by rfl, ?_⟩) ?_ ?_
          rotate_left
          · intro w'
            go_simp
            with_reducible rfl
          rotate_left
          · simp only [Act.put, List.setIfInBounds_toArray, List.set_cons_zero, List.set_cons_succ, i64_w, i32_w]
            rfl
          refine pure_ (i := 7) (N := some 34) (v := ?_) (a' := ?_) #[true, true, true, false, true, true, true, true, false, false, false, false] rfl rfl (by kernel_rfl) (fun _ _ _ h => h) (Or.inl ⟨by rfl, ?_⟩) ?_ ?_
          rotate_left
          · intro w'
            go_simp
            with_reducible rfl
          rotate_left
          · simp only [Act.put, List.setIfInBounds_toArray, List.set_cons_zero, List.set_cons_succ, i64_w, i32_w]
            rfl
          refine take_ (i := 3) (N := some 30) (v := ?_) (a' := ?_) #[true, true, true, true, true, true, true, true, false, false, false, false] rfl rfl (by kernel_rfl) (fun _ _ _ h => h) (Or.inl ⟨by rfl, ?_⟩) hHeld ?_ ?_
          rotate_left
          · rintro w' ⟨s0, s1⟩
            go_simp
            with_reducible rfl
          rotate_left
          · simp only [Act.put, List.setIfInBounds_toArray, List.set_cons_zero, List.set_cons_succ, i64_w, i32_w]
            rfl
          refine take_ (i := 8) (N := some 35) (v := ?_) (a' := ?_) #[true, true, true, true, true, true, true, true, true, false, false, false] rfl rfl (by kernel_rfl) (fun _ _ _ h => h) (Or.inl ⟨by rfl, ?_⟩) hHeld ?_ ?_
          rotate_left
          · rintro w' ⟨s0, s1⟩
            go_simp
            with_reducible rfl
          rotate_left
          · simp only [Act.put, List.setIfInBounds_toArray, List.set_cons_zero, List.set_cons_succ, i64_w, i32_w]
            rfl
          refine pure_ (i := 9) (N := some 36) (v := ?_) (a' := ?_) #[true, true, true, true, true, true, true, true, true, true, false, false] rfl rfl (by kernel_rfl) (fun _ _ _ h => h) (Or.inl ⟨by rfl, ?_⟩) ?_ ?_
          rotate_left
          · intro w'
            go_simp
            with_reducible rfl
          rotate_left
          · simp only [Act.put, List.setIfInBounds_toArray, List.set_cons_zero, List.set_cons_succ, i64_w, i32_w]
            rfl
          refine pure_ (i := 10) (N := some 37) (v := ?_) (a' := ?_) #[true, true, true, true, true, true, true, true, true, true, true, false] rfl rfl (by kernel_rfl) (fun _ _ _ h => h) (Or.inl ⟨by rfl, ?_⟩) ?_ ?_
          rotate_left
          · intro w'
            go_simp
            with_reducible rfl
          rotate_left
          · simp only [Act.put, List.setIfInBounds_toArray, List.set_cons_zero, List.set_cons_succ, i64_w, i32_w]
            rfl
          refine last_ (i := 11) (N := none) #[true, true, true, true, true, true, true, true, true, true, true, true] rfl rfl (by kernel_rfl) (by decide) (fun K hK => ?_)
          refine skip_ (w1 := ?_) (by rfl) rfl ?_ ?_
          rotate_left
          · go_simp
            rfl
          refine hK.out _ _ ?_
          clear hK K
          refine done_ (by kernel_rfl) ?_
          clear x0 x1 x2 x3
          have hne : g ≠ bx := by omega
          have ng : some g ≠ v.ownBlock := own_ne (g := g) (t := 47) HB.out.own HS.out (by decide)
          have nbx : some bx ≠ v.ownBlock := by intro e; have := own_lt HB.out.own bx e.symm; omega
          have HX : (wc.setCell ⟨bx, 1, none⟩ (.string (s.extract a.toNat a'.toNat))).drew.heap[bx]? = some (.cells #[.int .i64 1, .string (s.extract a.toNat a'.toNat), .int .i64 line, .int .i64 col] 31 (0, 0)) := by
            refine blk_drew ?_; have := blk_set MX.out.1 1 (.string (s.extract a.toNat a'.toNat)); simpa using this
          have hS1 : Scn (wc.setCell ⟨bx, 1, none⟩ (.string (s.extract a.toNat a'.toNat))).drew g s a' l' c' v f5 f6 f7 := blk_far (p := ⟨bx, 1, none⟩) MS.out hne _
          have hG1 : w.grownBy (wc.setCell ⟨bx, 1, none⟩ (.string (s.extract a.toNat a'.toNat))).drew (some g) := grown_drew (grown_setNew MG.out hbx _)
          generalize (wc.setCell ⟨bx, 1, none⟩ (.string (s.extract a.toNat a'.toNat))).drew = W1 at HX hS1 hG1 ⊢
          have htx : (s.extract a.toNat a'.toNat).data.toList = (Lx.nameL (suf s a) (line, col)).1 := by rw [LR.out.1, HE.out]; simp
          have hr2 : (Lx.nameL (suf s a) (line, col)).2 = (suf s a', (l', c')) := by rw [LR.out.2, HE.out]
          have hsz : (s.extract a.toNat a'.toNat).size = (Lx.nameL (suf s a) (line, col)).1.length := by rw [← htx, Array.length_toList]; rfl
          generalize s.extract a.toNat a'.toNat = tx at HX htx hsz ⊢
          have hO1 := HB.out.own.kept hG1 (Or.inr (Ne.symm ng))
          have TX := Aside0.mk (And.intro htx hr2)
          have x0 := (blk_cell HX 0).trans rfl
          have x1 := (blk_cell HX 1).trans rfl
          have x2 := (blk_cell HX 2).trans rfl
          have x3 := (blk_cell HX 3).trans rfl
          have x4 : W1.cell? ⟨g, 4, none⟩ = some v := (blk_cell hS1 4).trans rfl
          have KS1 := Aside0.mk hS1
          have KG1 := Aside0.mk hG1
          have HO := hO1
          clear hG1 htx hr2 HX
          by_cases hlen : 32 < (Lx.nameL (suf s a) (line, col)).1.length
          · have hl : (32 : Int) < (tx.size : Int) := by omega
            have RS : Aside0 (nameRes (suf s a) (line, col) = .error ⟨(line, col), 6⟩) := ⟨by unfold nameRes; rw [if_pos hlen]⟩
            clear hlen hsz hO1 HO
            go_wp2_with (go_at_call 33; refine (fail_calls KS1.out _ _ _ _ _).mono ?_; rintro e w3 ⟨rfl, hS3, hG3⟩)
            go_ret
            rw [RS.out]
            exact ⟨rfl, a', l', c', v, hS3, (below_grown KG1.out hge hlt).trans (below_grown hG3 hge KS1.out.lt)⟩
          · have hl : (tx.size : Int) ≤ 32 := by omega
            have RS : Aside0 (nameRes (suf s a) (line, col) = .ok (⟨1, (Lx.nameL (suf s a) (line, col)).1, (line, col)⟩, (suf s a', (l', c')))) := ⟨by unfold nameRes; rw [if_neg hlen, TX.out.2]⟩
            clear hlen hsz hO1
            go_wp2_with fail
            have nW : g < W1.heap.size := KS1.out.lt
            have hsz : bx < W1.heap.size := World.block_lt_of_cell? W1 ⟨bx, 0, none⟩ x0
            have hW1 : b ≤ W1.heap.size := by omega
            have zf : W1.frozen? ⟨g, 4, none⟩ = false := blk_frozen KS1.out 4
            have hgW : g < W1.heap.size := nW
            have AL : ∀ {a u o}, W1.cell? a = some u → (W1.alloc o).drew.cell? a = some u := fun {a u o} h => (World.cell?_alloc_some W1 a o (by rw [h]; rfl)).trans h
            have AF : ∀ {o}, W1.frozen? ⟨g, 4, none⟩ = false → (W1.alloc o).drew.frozen? ⟨g, 4, none⟩ = false := fun {o} _ => blk_frozen ((KS1.out.alloc o).drew) 4
            have hz0 := HI.out.1
            have hz1 := HI.out.2.1
            have hz2 := HI.out.2.2
            refine start_ (n := 11) (S := fun w' => w'.cell? ⟨g, 4, none⟩ = some v ∧ w'.cell? ⟨bx, 0, none⟩ = some (.int .i64 1) ∧ w'.cell? ⟨bx, 1, none⟩ = some (.string tx) ∧ w'.cell? ⟨bx, 2, none⟩ = some (.int .i64 line) ∧ w'.cell? ⟨bx, 3, none⟩ = some (.int .i64 col)) (ds := [10]) #[false, false, false, false, false, false, false, false, false, false, false] (by kernel_rfl) rfl rfl ⟨x4, x0, x1, x2, x3⟩ (fun hHeld => ?_)
            refine pure_ (i := 0) (N := some 45) (v := ?_) (a' := ?_) #[true, false, false, false, false, false, false, false, false, false, false] rfl rfl (by kernel_rfl) (fun _ _ _ h => h) (Or.inl ⟨by rfl, ?_⟩) ?_ ?_
            rotate_left
            · intro w'
              go_simp
              with_reducible rfl
            rotate_left
            · simp only [Act.put, List.setIfInBounds_toArray, List.set_cons_zero, List.set_cons_succ, i64_w, i32_w]
              rfl
            refine pure_ (i := 1) (N := some 46) (v := ?_) (a' := ?_) #[true, true, false, false, false, false, false, false, false, false, false] rfl rfl (by kernel_rfl) (fun _ _ _ h => h) (Or.inl ⟨by rfl, ?_⟩) ?_ ?_
            rotate_left
            · intro w'
              go_simp
              with_reducible rfl
            rotate_left
            · simp only [Act.put, List.setIfInBounds_toArray, List.set_cons_zero, List.set_cons_succ, i64_w, i32_w]
              rfl
            refine pure_ (i := 2) (N := some 47) (v := ?_) (a' := ?_) #[true, true, true, false, false, false, false, false, false, false, false] rfl rfl (by kernel_rfl) (fun _ _ _ h => h) (Or.inl ⟨by rfl, ?_⟩) ?_ ?_
            rotate_left
            · intro w'
              go_simp
              with_reducible rfl
            rotate_left
            · simp only [Act.put, List.setIfInBounds_toArray, List.set_cons_zero, List.set_cons_succ, i64_w, i32_w]
              rfl
            refine pure_ (i := 3) (N := some 48) (v := ?_) (a' := ?_) #[true, true, true, true, false, false, false, false, false, false, false] rfl rfl (by kernel_rfl) (fun _ _ _ h => h) (Or.inl ⟨by rfl, ?_⟩) ?_ ?_
            rotate_left
            · intro w'
              go_simp
              with_reducible rfl
            rotate_left
            · simp only [Act.put, List.setIfInBounds_toArray, List.set_cons_zero, List.set_cons_succ, i64_w, i32_w]
              rfl
            refine take_ (i := 4) (N := some 49) (v := ?_) (a' := ?_) #[true, true, true, true, true, false, false, false, false, false, false] rfl rfl (by kernel_rfl) (fun _ _ _ h => h) (Or.inl ⟨by rfl, ?_⟩) hHeld ?_ ?_
            rotate_left
            · rintro w' ⟨s0, s1, s2, s3, s4⟩
              go_simp
              with_reducible rfl
            rotate_left
            · simp only [Act.put, List.setIfInBounds_toArray, List.set_cons_zero, List.set_cons_succ, i64_w, i32_w]
              rfl
            refine take_ (i := 5) (N := some 50) (v := ?_) (a' := ?_) #[true, true, true, true, true, true, false, false, false, false, false] rfl rfl (by kernel_rfl) (fun _ _ _ h => h) (Or.inl ⟨by rfl, ?_⟩) hHeld ?_ ?_
            rotate_left
            · rintro w' ⟨s0, s1, s2, s3, s4⟩
              go_simp
              with_reducible rfl
            rotate_left
            · simp only [Act.put, List.setIfInBounds_toArray, List.set_cons_zero, List.set_cons_succ, i64_w, i32_w]
              rfl
            refine one_ (i := 6) (N := some 51) #[true, true, true, true, true, true, true, false, false, false, false] rfl rfl (by kernel_rfl) (by decide) (fun K hK => ?_)
            refine value_ (w1 := ?_) (v := ?_) (by rfl) rfl ?_ ?_
            rotate_left 2
            · go_simp
              constructor
              · rfl
              · rfl
            refine hK.out _ _ ⟨(AL x4), (AL x0), (AL x1), (AL x2), (AL x3)⟩ (fun hHeld => ?_)
            clear hK K
            refine norm_ (a' := ?_) ?_ ?_
            rotate_left
            · show Act.put _ (some 51) _ = _
              simp only [Act.put, List.setIfInBounds_toArray, List.set_cons_zero, List.set_cons_succ, i64_w, i32_w]
              rfl
            refine one_ (i := 7) (N := some 52) #[true, true, true, true, true, true, true, true, false, false, false] rfl rfl (by kernel_rfl) (by decide) (fun K hK => ?_)
            refine step_append_lies _ (by rfl) _ _ _ (by rfl) b 31 i0 _ 4 40 Try.underlying24 hi0 hz0 hz1 hz2 rfl (by omega) v n xs (by rfl) ((HO.alloc _).drew) ⟨W1.heap.size, 0, none⟩ 1 1 [.int .i64 1, .string tx, .int .i64 line, .int .i64 col] (by rfl) (by rfl) (World.news_of_block (cs := #[.int .i64 1, .string tx, .int .i64 line, .int .i64 col]) (t := 31) (fr := (0, 0)) (heap_alloc_new W1 _)) (by simp [Value.oneCell']) (by omega) (by unfold maxLen; omega) (by omega) (by simp; omega) (W1.heap.size + 1) (by simp) ?_
            intro gg cap w1 hown1 hgrow hat hlt1
            have kf : ∀ a u, a.block < W1.heap.size → some a.block ≠ v.ownBlock → W1.cell? a = some u → w1.cell? a = some u := fun a u h1 h2 h3 => (hgrow.cell_far a (by simp; omega) h2).trans (AL h3)
            refine hK.out _ _ ⟨(kf _ _ hgW ng x4), (kf _ _ hsz nbx x0), (kf _ _ hsz nbx x1), (kf _ _ hsz nbx x2), (kf _ _ hsz nbx x3)⟩ (fun hHeld => ?_)
            clear hK K
            refine norm_ (a' := ?_) ?_ ?_
            rotate_left
            · show Act.put _ (some 52) _ = _
              simp only [Act.put, List.setIfInBounds_toArray, List.set_cons_zero, List.set_cons_succ, i64_w, i32_w]
              rfl
            refine pure_ (i := 8) (N := some 53) (v := ?_) (a' := ?_) #[true, true, true, true, true, true, true, true, true, false, false] rfl rfl (by kernel_rfl) (fun _ _ _ h => h) (Or.inl ⟨by rfl, ?_⟩) ?_ ?_
            rotate_left
            · intro w'
              go_simp
              with_reducible rfl
            rotate_left
            · simp only [Act.put, List.setIfInBounds_toArray, List.set_cons_zero, List.set_cons_succ, i64_w, i32_w]
              rfl
            refine pure_ (i := 9) (N := some 54) (v := ?_) (a' := ?_) #[true, true, true, true, true, true, true, true, true, true, false] rfl rfl (by kernel_rfl) (fun _ _ _ h => h) (Or.inl ⟨by rfl, ?_⟩) ?_ ?_
            rotate_left
            · intro w'
              go_simp
              with_reducible rfl
            rotate_left
            · simp only [Act.put, List.setIfInBounds_toArray, List.set_cons_zero, List.set_cons_succ, i64_w, i32_w]
              rfl
            refine last_ (i := 10) (N := none) #[true, true, true, true, true, true, true, true, true, true, true] rfl rfl (by kernel_rfl) (by decide) (fun K hK => ?_)
            have z4 : w1.frozen? ⟨g, 4, none⟩ = false := (hgrow.frozen_far ⟨g, 4, none⟩ (by simp; omega) ng).trans (AF zf)
            have y4 := kf ⟨g, 4, none⟩ _ hgW ng x4
            refine skip_ (w1 := ?_) (by rfl) rfl ?_ ?_
            rotate_left
            · go_simp
              rfl
            refine hK.out _ _ ?_
            clear hK K
            refine done_ (by kernel_rfl) ?_
            go_wp2
            go_ret
            rw [RS.out]
            have fin := append_close (P := True) (ys := [.int .i64 1, .string tx, .int .i64 line, .int .i64 col]) hgW hge ((Below.refl b W1)) KS1.out HO hgrow hown1 ng trivial
            obtain ⟨-, v', hs', hb'⟩ := fin
            exact ⟨rfl, tx, v', a', TX.out.1, rfl, LT.out, hs', (below_grown KG1.out hge hlt).trans hb'⟩
end Go.Proofs.Ytohbjgckcbdegaa.Lw
