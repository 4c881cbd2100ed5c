/- The walk of package lex: literal. -/
import Derived.Test.YtohbjgckcbdegaaLexWf
import Derived.Lib.LazyBuf
set_option linter.unusedVariables false
set_option linter.unusedSimpArgs false
namespace Go.Proofs.Ytohbjgckcbdegaa.Lw
open Go.RowKit Go.Proofs.YtohbjgckcbdegaaW.PrintWords Go.Proofs.YtohbjgckcbdegaaW.PrintLast Go.Proofs.YtohbjgckcbdegaaW.PrintMore Go.Proofs.Ytohbjgckcbdegaa

theorem infoU8 : (Try.prog.info? 5).map (fun i => (i.zero, i.size, i.bytes)) = some (some (.int .u8 0), 1, 1) := by kernel_rfl

def litRes (q : UInt8) (cs : List UInt8) (p : Int × Int) : Except Lx.Flt (Lx.Tok × List UInt8 × (Int × Int)) :=
  match Lx.lit q (cs.length + 1) cs (Lx.adv q p) [] with
  | (none, p') => .error ⟨p', 2⟩
  | (some (t, rest), p') => if t = [] then .error ⟨p, 2⟩ else if t.length > 16 then .error ⟨p, 6⟩ else .ok (⟨2, t, p⟩, rest, p')

def codes (l : List UInt8) : List Int := l.map fun c => (c.toNat : Int)
def LitR (w : World) (g : Nat) (s : ByteArray) (line col : Int) (v : Value) (f5 f6 f7 : Int) (bx : Nat) (q : UInt8) (R : Option (List UInt8 × List UInt8) × (Int × Int)) (k : Nat) (so : Value) (wr : World) : Prop :=
  ∃ (a' l' c' : Int) (out : List UInt8) (m : Nat), Scn wr g s a' l' c' v f5 f6 f7 ∧ BoxAt w wr bx 2 line col ⟨#[]⟩ ∧ w.grownBy wr (some g) ∧ At s a' l' c' ∧
    wr.ownsRow w.heap.size 5 1 so (nums .u8 (codes out)).length (nums .u8 (codes out)) ∧ (out.length : Int) ≤ a' ∧ (s.size : Int) - a' < k ∧ Lx.lit q m (suf s a') (l', c') out = R ∧ (s.size : Int) - a' < m

theorem codes_len (l : List UInt8) : (nums .u8 (codes l)).length = l.length := by simp [nums, codes]
theorem codes_snoc (l : List UInt8) (c : UInt8) : nums .u8 (codes (l ++ [c])) = nums .u8 (codes l) ++ [.int .u8 c.toNat] := by simp [nums, codes]
theorem codes_str (l : List UInt8) : strOfNums (codes l) = ⟨l.toArray⟩ := Lib.Lz.strOfNums_map l
/-- New blocks written. -/
theorem grown_new {w W w1 : World} {g : Nat} {row : Option Nat} (h : w.grownBy W (some g)) (hg : W.grownBy w1 row) (hr : ∀ k, row = some k → w.heap.size ≤ k) : w.grownBy w1 (some g) :=
  ⟨hg.os.trans h.os, hg.tape.trans h.tape, hg.output.trans h.output, Nat.le_trans h.size hg.size, fun i hi hne => (hg.block i (Nat.lt_of_lt_of_le hi h.size) (fun e => by have := hr i e.symm; omega)).trans (h.block i hi hne)⟩
theorem BoxAt.other {w wx w3 : World} {bx : Nat} {k l c : Int} {t : ByteArray} (h : BoxAt w wx bx k l c t) {row : Option Nat} (hg : wx.grownBy w3 row) (hne : some bx ≠ row) : BoxAt w w3 bx k l c t := ⟨blk_grown h.1 hg hne, h.2⟩
theorem BoxAt.drewN {w wx : World} {bx : Nat} {k l c : Int} {t : ByteArray} (h : BoxAt w wx bx k l c t) (n : Nat) : BoxAt w (wx.drewN n) bx k l c t := h
theorem lit_nil (q : UInt8) (m : Nat) (p : Int × Int) (out : List UInt8) : Lx.lit q m [] p out = (none, p) := by cases m <;> rfl

set_option maxHeartbeats 2000000 in
set_option maxRecDepth 100000 in
theorem literal_calls {b g : Nat} {s : ByteArray} {a line col : Int} {v : Value} {xs : List Value} {n : Nat} {f5 f6 f7 : Int} {w : World} (hb : Scs b w g s a line col v xs n f5 f6 f7) (hA : At s a line col) (hn : n ≤ 1000000)
    (hlt : a < (s.size : Int)) (q : UInt8) (hq : suf s a = q :: suf s (a + 1)) (hbt : bt s a = q.toNat) (x : Int) (hx : x = q.toNat) :
    Calls Try.prog 31 #[.pointer (some ⟨g, 0, none⟩), .int .u8 x] w (TokP b w g s xs n f5 f6 f7 (litRes q (suf s (a + 1)) (line, col))) := by
  have HB := Aside0.mk hb
  have HA := Aside0.mk hA
  have hS : Scn w g s a line col v f5 f6 f7 := hb.scn
  have HS := Aside0.mk hS
  have hglt := hS.lt
  have hge := hb.ge
  have HQ := Aside0.mk (And.intro hq (And.intro hbt hx))
  have q0 := hA.a0
  have q1 := hA.a1
  have qs := hA.big
  have ng : some g ≠ v.ownBlock := own_ne (g := g) (t := 47) hb.own hS (by decide)
  clear hb hA hS hq hbt hx
  go_enter Try.func31, Try.ntmps31
  go_wp2_with (go_at_call 20; refine (here_scn HS.out 2).mono ?_; rintro e w1 ⟨rfl, hg1, hS1⟩)
  have HX1 := Aside0.mk (show BoxAt w (w1.alloc (.cells #[.int .i64 2, .string ⟨#[]⟩, .int .i64 line, .int .i64 col] 31)) w1.heap.size 2 line col ⟨#[]⟩ from ⟨blk_new _ _, hg1.size⟩)
  have HS1 := Aside0.mk (hS1.alloc (.cells #[.int .i64 2, .string ⟨#[]⟩, .int .i64 line, .int .i64 col] 31))
  have HG1 := Aside0.mk (grown_some (grown_alloc hg1 (.cells #[.int .i64 2, .string ⟨#[]⟩, .int .i64 line, .int .i64 col] 31)) (some g))
  clear hg1 hS1
  generalize hW2 : w1.alloc (.cells #[.int .i64 2, .string ⟨#[]⟩, .int .i64 line, .int .i64 col] 31) = w2 at *
  clear hW2
  generalize hbx : w1.heap.size = bx at *
  clear hbx
  refine (step_calls HS1.out HA.out hlt q HQ.out.2.1).mono ?_
  rintro e w3 ⟨rfl, hS3, hG3⟩
  have hbge := HX1.out.2
  have HX3 := Aside0.mk (HX1.out.far hG3 hglt)
  have HS3 := Aside0.mk hS3
  have HG3 := Aside0.mk (HG1.out.trans hG3)
  have HA3 := Aside0.mk (HA.out.step hlt q)
  clear hS3 hG3 HX1 HS1 HG1
  generalize hp1 : Lx.adv q (line, col) = p1 at *
  have RES : Aside0 (litRes q (suf s (a + 1)) (line, col) = match Lx.lit q ((suf s (a + 1)).length + 1) (suf s (a + 1)) p1 [] with
      | (none, p') => .error ⟨p', 2⟩
      | (some (t, rest), p') => if t = [] then .error ⟨(line, col), 2⟩ else if t.length > 16 then .error ⟨(line, col), 6⟩ else .ok (⟨2, t, (line, col)⟩, rest, p')) := ⟨by unfold litRes; rw [hp1]⟩
  clear hp1
  go_wp2_with fail
  go_loopg [6] (s.size + 1) (fun k so wr => LitR w g s line col v f5 f6 f7 bx q (Lx.lit q ((suf s (a + 1)).length + 1) (suf s (a + 1)) p1 []) k so wr)
  case atStart =>
    refine ⟨a + 1, p1.1, p1.2, [], _, HS3.out, HX3.out, HG3.out, HA3.out, own_nil _ _ _ _, by simp; omega, by omega, rfl, ?_⟩
    rw [suf_length]; omega
  case round =>
    obtain ⟨a', l', c', out, m, hS, hX, hG, hT, hO, ho, hk, hlit, hm⟩ := hrel
    have LS := Aside0.mk hS
    have LX := Aside0.mk hX
    have LG := Aside0.mk hG
    have LT := Aside0.mk hT
    have LO := Aside0.mk hO
    have LL := Aside0.mk hlit
    have r0 := hT.a0
    have r1 := hT.a1
    clear hS hX hG hT hO hlit
    have bad : ∀ (p' : Int × Int) (W w5 : World) (k5 l5 c5 : Int) , Lx.lit q m (suf s a') (l', c') out = (none, p') → w.grownBy W (some g) → Scn w5 g s k5 l5 c5 v p'.1 p'.2 2 → W.grownBy w5 (some g) → TokP b w g s xs n f5 f6 f7 (litRes q (suf s (a + 1)) (line, col)) (.returned (.bool false)) w5 := by
      intro p' W w5 k5 l5 c5 he hGW hS5 hG5
      rw [RES.out, ← LL.out, he]
      exact ⟨rfl, _, _, _, _, hS5, below_grown (hGW.trans hG5) hge hglt⟩
    have BAD := Aside0.mk bad
    clear bad
    by_cases hlt' : a' < (s.size : Int)
    · obtain ⟨c, hc, hcb⟩ := suf_cons r0 hlt'
      have HC := Aside0.mk (And.intro hc hcb)
      clear hc hcb
      obtain ⟨m, rfl⟩ : ∃ m', m = m' + 1 := ⟨m - 1, by omega⟩
      go_wp2_with (go_at_call 18; refine (more_yes LS.out hlt').mono ?_; rintro e w4 ⟨rfl, n4, hn4⟩)
      have h0 := (blk_cell (show Scn w4 g s a' l' c' v f5 f6 f7 by rw [← hn4]; exact LS.out) 0).trans rfl
      have h1 := (blk_cell (show Scn w4 g s a' l' c' v f5 f6 f7 by rw [← hn4]; exact LS.out) 1).trans rfl
      have HN4 := Aside0.mk hn4
      clear hn4
      have p4 : (0 ≤ a') = True := eq_true r0
      have q4 : (a' < (s.size : Int)) = True := eq_true hlt'
      have hx4 := bt_at s a'
      go_quiet (fail)
      clear h0 h1 p4 q4 hx4
      generalize hW5 : w4.drewN nq = w5
      have MS : Aside0 (Scn w5 g s a' l' c' v f5 f6 f7) := ⟨by rw [← hW5, ← HN4.out]; exact LS.out⟩
      have MX : Aside0 (BoxAt w w5 bx 2 line col ⟨#[]⟩) := ⟨by rw [← hW5, ← HN4.out]; exact LX.out⟩
      have MG : Aside0 (w.grownBy w5 (some g)) := ⟨by rw [← hW5, ← HN4.out]; exact grown_drewN (grown_drewN LG.out _) _⟩
      have MO_ : Aside0 (w5.ownsRow w.heap.size 5 1 u6 (nums .u8 (codes out)).length (nums .u8 (codes out))) := ⟨by rw [← hW5, ← HN4.out]; exact LO.out⟩
      clear hW5 HN4 LS LX LG LO
      by_cases hcq : c = q
      · have bq : (bt s a' == x) = true := beq_iff_eq.mpr (by rw [HC.out.2, HQ.out.2.2, hcq])
        have hl : Lx.lit q (m + 1) (suf s a') (l', c') out = (some (out, suf s (a' + 1)), Lx.adv c (l', c')) := by
          rw [HC.out.1]; simp [Lx.lit, hcq]
        have HL := Aside0.mk hl
        clear hl hcq
        have nu : u6.ownBlock ≠ some g := Ne.symm (own_ne (g := g) (t := 47) MO_.out MS.out (by decide))
        have hsz : (⟨out.toArray⟩ : ByteArray).size = out.length := by show out.toArray.size = _; simp
        have htl : (⟨out.toArray⟩ : ByteArray).data.toList = out := by simp
        have HZ := Aside0.mk (And.intro hsz htl)
        generalize htx : (⟨out.toArray⟩ : ByteArray) = tx at *
        have HTX := Aside0.mk htx
        clear htx hsz htl
        go_wp2_with (first | (go_at_call 29; refine (step_calls MS.out LT.out hlt' c HC.out.2).mono ?_; rintro e w6 ⟨rfl, hS6, hG6⟩; have HS6 := Aside0.mk hS6; have HG6 := Aside0.mk hG6; clear hS6 hG6; have hX6 := (MX.out.far HG6.out hglt).1; have y0 := (blk_cell hX6 0).trans rfl; have y1 := (blk_cell hX6 1).trans rfl; have y2 := (blk_cell hX6 2).trans rfl; have y3 := (blk_cell hX6 3).trans rfl; clear hX6; have hcv : (convert 33 9 u6).run Try.prog w6 = .ok (.string tx) w6 := (own_string Try.underlying33 Try.underlying5 Try.underlying9 (MO_.out.kept HG6.out (Or.inr nu))).trans (by rw [codes_str, HTX.out])))
        clear hcv y0 y1 y2 y3
        by_cases h0 : out = []
        · refine (ended_empty HS6.out _ _ _ _ _ (by rw [HZ.out.2]; exact h0)).mono ?_
          rintro e w7 ⟨rfl, hS7, hG7⟩
          go_wp2_with fail
          go_ret
          rw [RES.out, ← LL.out, HL.out]
          simp only [h0, if_true]
          exact ⟨rfl, _, _, _, _, hS7, below_grown (MG.out.trans (HG6.out.trans hG7)) hge hglt⟩
        · have hpos : 1 ≤ out.length := by cases out with
            | nil => exact absurd rfl h0
            | cons => simp
          by_cases h16 : 16 < out.length
          · refine (ended_long HS6.out _ _ _ _ _ (by rw [HZ.out.1]; exact h16)).mono ?_
            rintro e w7 ⟨rfl, hS7, hG7⟩
            go_wp2_with fail
            go_ret
            rw [RES.out, ← LL.out, HL.out]
            simp only [h0, if_false]
            rw [if_pos h16]
            exact ⟨rfl, _, _, _, _, hS7, below_grown (MG.out.trans (HG6.out.trans hG7)) hge hglt⟩
          · have hG06 := MG.out.trans HG6.out
            refine (ended_ok ⟨HS6.out, HB.out.own.kept hG06 (Or.inr (Ne.symm ng)), hge⟩ _ _ _ _ _ (by rw [HZ.out.1]; exact hpos) (by rw [HZ.out.1]; omega) hn).mono ?_
            rintro e w7 ⟨rfl, v', hS7, hB7⟩
            have EE := Aside0.mk (And.intro hS7 hB7)
            have GG := Aside0.mk hG06
            clear hS7 hB7 hG06
            go_wp2_with fail
            go_ret
            rw [RES.out, ← LL.out, HL.out]
            simp only [h0, if_false]
            rw [if_neg h16]
            exact ⟨rfl, tx, v', a' + 1, HZ.out.2, rfl, LT.out.step hlt' c, EE.out.1, (below_grown GG.out hge hglt).trans EE.out.2⟩
      · have bq : (bt s a' == x) = false := beq_eq_false_iff_ne.mpr (by rw [HC.out.2, HQ.out.2.2]; intro h; exact hcq (UInt8.toNat_inj.mp (by omega)))
        have HCQ := Aside0.mk hcq
        clear hcq
        by_cases h92 : bt s a' = 92
        · have b92 : (bt s a' == 92) = true := beq_iff_eq.mpr h92
          have e92 : c.toNat = 92 := by have := HC.out.2; omega
          have H92 := Aside0.mk e92
          clear h92 e92
          go_wp2_with (first | (go_at_call 29; refine (step_calls MS.out LT.out hlt' c HC.out.2).mono ?_; rintro e w6 ⟨rfl, hS6, hG6⟩))
          have HG6 := Aside0.mk (MG.out.trans hG6)
          have G6 := Aside0.mk hG6
          clear hG6
          refine (escape_calls hS6 (LT.out.step hlt' c)).mono ?_
          clear hS6
          intro e w7 hE
          cases hes : Lx.esc (suf s (a' + 1)) (Lx.adv c (l', c')) with
          | bad r7 p7 =>
            rw [show ((Lx.adv c (l', c')).1, (Lx.adv c (l', c')).2) = Lx.adv c (l', c') from rfl, hes] at hE
            obtain ⟨rfl, a7, hA7, hS7, hG7⟩ := hE
            have HES := Aside0.mk hes
            have GG := Aside0.mk (HG6.out.trans hG7)
            clear hes hG7
            go_wp2_with fail
            refine (here_scn hS7 4).mono ?_
            rintro e w8 ⟨rfl, hg8, hS8⟩
            have NG := Aside0.mk (GG.out.trans (grown_some hg8 _))
            clear hg8 hS7
            go_wp2_with fail
            refine (fail_calls hS8 _ _ _ _ _).mono ?_
            rintro e w9 ⟨rfl, hS9, hG9⟩
            go_wp2_with fail
            go_ret
            exact BAD.out p7 _ _ _ _ _ (by rw [HC.out.1]; simp [Lx.lit, HCQ.out, H92.out, HES.out]) NG.out hS9 hG9
          | ok b7 r7 p7 =>
            rw [show ((Lx.adv c (l', c')).1, (Lx.adv c (l', c')).2) = Lx.adv c (l', c') from rfl, hes] at hE
            obtain ⟨rfl, a7, hr7, hA7, hS7, hG7, hlt7⟩ := hE
            have HES := Aside0.mk (And.intro hes hr7)
            have GG := Aside0.mk (HG6.out.trans hG7)
            have KS := Aside0.mk hS7
            have KA := Aside0.mk hA7
            have s7 := hA7.a1
            have HX7 := Aside0.mk ((MX.out.far G6.out hglt).far hG7 hglt)
            have nu : u6.ownBlock ≠ some g := Ne.symm (own_ne (g := g) (t := 47) MO_.out MS.out (by decide))
            have HO7 := Aside0.mk ((MO_.out.kept G6.out (Or.inr nu)).kept hG7 (Or.inr nu))
            have hB7 : Below w.heap.size w7 w7 := Below.refl _ _
            have hw7 : w.heap.size ≤ w7.heap.size := GG.out.size
            clear hes hr7 hG7 hS7 hA7
            go_wp2_with (first | (at_builtin; refine print_append (w0 := w7) w.heap.size rfl (.tmp 63) (.tmp 65) 33 5 (.int .u8 0) 1 rfl Try.underlying33 infoU8 rfl (by decide) u6 (nums .u8 (codes out)) (.int .u8 b7.toNat) rfl rfl rfl HO7.out hB7 hw7 (by rw [codes_len]; omega) ?_; intro v1 w8 hO8 hB8 hG8 hat8))
            have GX := Aside0.mk (grown_new GG.out hG8 (fun k hk => own_base HO7.out k hk))
            have RX := Aside0.mk (show w8.ownsRow w.heap.size 5 1 v1 (nums .u8 (codes (out ++ [b7]))).length (nums .u8 (codes (out ++ [b7]))) by rw [codes_snoc]; exact hO8)
            have SX := Aside0.mk (KS.out.grown hG8 (Ne.symm nu))
            have BX := Aside0.mk (HX7.out.other hG8 (by
              intro e
              rcases own_typed HO7.out bx e.symm with ⟨cells, hcells⟩
              rw [HX7.out.1] at hcells
              injection hcells with hcells
              injection hcells with _ hcells
              exact absurd hcells (by decide)))
            clear hO8 hB8 hG8 hat8
            go_wp2_with fail
            go_roundg (((s.size : Int) - a7).toNat + 1)
            case measure => omega
            case rel =>
              refine ⟨a7, p7.1, p7.2, out ++ [b7], m, SX.out, BX.out, GX.out, KA.out, RX.out, by simp; omega, by omega, ?_, by omega⟩
              rw [← LL.out, HC.out.1]
              simp [Lx.lit, HCQ.out, H92.out, HES.out.1, HES.out.2]
        · have b92 : (bt s a' == 92) = false := beq_eq_false_iff_ne.mpr h92
          have e92 : ¬ c.toNat = 92 := by have := HC.out.2; omega
          have H92 := Aside0.mk e92
          clear h92 e92
          by_cases hbad : bt s a' < 32 ∨ 126 < bt s a'
          · have HBD : Aside0 (c.toNat < 32 ∨ 126 < c.toNat) := ⟨by have := HC.out.2; omega⟩
            have badt : ∀ (w9 : World) (k5 l5 c5 : Int), Scn w9 g s k5 l5 c5 v l' c' 2 → w.grownBy w9 (some g) → TokP b w g s xs n f5 f6 f7 (litRes q (suf s (a + 1)) (line, col)) (.returned (.bool false)) w9 := by
              intro w9 k5 l5 c5 h1 h2
              exact BAD.out (l', c') w w9 _ _ _ (by rw [HC.out.1]; simp [Lx.lit, HCQ.out, H92.out, HBD.out]) (grown_refl _ _) h1 h2
            have BT := Aside0.mk badt
            clear badt
            by_cases h32 : bt s a' < 32
            · clear hbad
              go_wp2_with (first | (go_at_call 20; refine (here_scn MS.out 4).mono ?_; rintro e w6 ⟨rfl, hg6, hS6⟩))
              have NG := Aside0.mk (MG.out.trans (grown_some hg6 _))
              clear hg6
              refine (fail_calls hS6 _ _ _ _ _).mono ?_
              rintro e w7 ⟨rfl, hS7, hG7⟩
              have NG7 := Aside0.mk (NG.out.trans hG7)
              clear hG7
              go_wp2_with fail
              go_ret
              exact BT.out _ _ _ _ hS7 NG7.out
            · have h126 : 126 < bt s a' := by omega
              have b32 : decide (bt s a' < 32) = false := decide_eq_false h32
              clear hbad
              go_wp2_with (first | (go_at_call 20; refine (here_scn MS.out 4).mono ?_; rintro e w6 ⟨rfl, hg6, hS6⟩))
              have NG := Aside0.mk (MG.out.trans (grown_some hg6 _))
              clear hg6
              refine (fail_calls hS6 _ _ _ _ _).mono ?_
              rintro e w7 ⟨rfl, hS7, hG7⟩
              have NG7 := Aside0.mk (NG.out.trans hG7)
              clear hG7
              go_wp2_with fail
              go_ret
              exact BT.out _ _ _ _ hS7 NG7.out
          · have h32 : decide (bt s a' < 32) = false := decide_eq_false (by omega)
            have h126 : decide (126 < bt s a') = false := decide_eq_false (by omega)
            have HBD : Aside0 (¬ (c.toNat < 32 ∨ 126 < c.toNat)) := ⟨by have := HC.out.2; omega⟩
            clear hbad
            have nu : u6.ownBlock ≠ some g := Ne.symm (own_ne (g := g) (t := 47) MO_.out MS.out (by decide))
            have hB7 : Below w.heap.size w5 w5 := Below.refl _ _
            have hw7 : w.heap.size ≤ w5.heap.size := MG.out.size
            go_wp2_with (first | (at_builtin; refine print_append (w0 := w5) w.heap.size rfl (.tmp 30) (.tmp 32) 33 5 (.int .u8 0) 1 rfl Try.underlying33 infoU8 rfl (by decide) u6 (nums .u8 (codes out)) (.int .u8 (bt s a')) rfl rfl rfl MO_.out hB7 hw7 (by rw [codes_len]; omega) ?_; intro v1 w8 hO8 hB8 hG8 hat8; have SX := Aside0.mk (MS.out.grown hG8 (Ne.symm nu)); have GX := Aside0.mk (grown_new MG.out hG8 (fun k hk => own_base MO_.out k hk)); have G8 := Aside0.mk hG8; have O8 := Aside0.mk hO8; clear hO8 hB8 hG8 hat8) | (go_at_call 29; refine (step_calls SX.out LT.out hlt' c HC.out.2).mono ?_; rintro e w9 ⟨rfl, hS9, hG9⟩))
            have RX : w8.ownsRow w.heap.size 5 1 v1 (nums .u8 (codes (out ++ [c]))).length (nums .u8 (codes (out ++ [c]))) := by rw [codes_snoc, ← HC.out.2]; exact O8.out
            have BX := MX.out.other G8.out (by
              intro e
              rcases own_typed MO_.out bx e.symm with ⟨cells, hcells⟩
              rw [MX.out.1] at hcells
              injection hcells with hcells
              injection hcells with _ hcells
              exact absurd hcells (by decide))
            have nv : v1.ownBlock ≠ some g := Ne.symm (own_ne (g := g) (t := 47) RX SX.out (by decide))
            go_roundg (((s.size : Int) - (a' + 1)).toNat + 1)
            case measure => omega
            case rel =>
              refine ⟨a' + 1, _, _, out ++ [c], m, hS9, BX.far hG9 hglt, GX.out.trans hG9, LT.out.step hlt' c, RX.kept hG9 (Or.inr nv), by simp; omega, by omega, ?_, by omega⟩
              rw [← LL.out, HC.out.1]
              simp [Lx.lit, HCQ.out, H92.out, HBD.out]
    · have hle : (s.size : Int) ≤ a' := by omega
      clear hlt'
      go_wp2_with (first | (go_at_call 18; refine (more_no LS.out hle).mono ?_; rintro e w4 ⟨rfl, n4, hn4⟩))
      have MS : Aside0 (Scn w4 g s a' l' c' v f5 f6 f7) := ⟨by rw [← hn4]; exact LS.out⟩
      have MG : Aside0 (w.grownBy w4 (some g)) := ⟨by rw [← hn4]; exact grown_drewN LG.out _⟩
      clear hn4
      refine (here_scn MS.out 4).mono ?_
      rintro e w5 ⟨rfl, hg5, hS5⟩
      have NG := Aside0.mk (MG.out.trans (grown_some hg5 _))
      clear hg5
      go_wp2_with fail
      refine (fail_calls hS5 _ _ _ _ _).mono ?_
      rintro e w6 ⟨rfl, hS6, hG6⟩
      go_wp2_with fail
      go_ret
      exact BAD.out (l', c') _ _ _ _ _ (by rw [suf_nil hle]; exact lit_nil _ _ _ _) NG.out hS6 hG6
end Go.Proofs.Ytohbjgckcbdegaa.Lw
