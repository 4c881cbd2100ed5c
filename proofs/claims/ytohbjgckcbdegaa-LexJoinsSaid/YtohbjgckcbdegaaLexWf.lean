/- The walk of package lex: escape. -/
import Derived.Test.YtohbjgckcbdegaaLexWe
import Derived.Test.YtohbjgckcbdegaaShelf
set_option linter.unusedVariables false
set_option linter.unusedSimpArgs false
namespace Go.Proofs.Ytohbjgckcbdegaa.Lw
open Go.RowKit Go.Proofs.YtohbjgckcbdegaaW.PrintWords Go.Proofs.YtohbjgckcbdegaaW.PrintLast Go.Proofs.YtohbjgckcbdegaaW.PrintMore Go.Proofs.Ytohbjgckcbdegaa

def EscP (w : World) (g : Nat) (s : ByteArray) (a : Int) (v : Value) (f5 f6 f7 : Int) (res : Lx.Esc) (x : Ending) (w' : World) : Prop :=
  match res with
  | .ok b rest p => x = .returned (.tuple #[.int .u8 b.toNat, .bool true]) ∧ ∃ a' : Int, suf s a' = rest ∧ At s a' p.1 p.2 ∧ Scn w' g s a' p.1 p.2 v f5 f6 f7 ∧ w.grownBy w' (some g) ∧ a < a'
  | .bad rest p => x = .returned (.tuple #[.int .u8 0, .bool false]) ∧ ∃ a' : Int, At s a' p.1 p.2 ∧ Scn w' g s a' p.1 p.2 v f5 f6 f7 ∧ w.grownBy w' (some g)

def hexes : List UInt8 := [48, 49, 50, 51, 52, 53, 54, 55, 56, 57, 97, 98, 99, 100, 101, 102]
theorem u8_all {p : UInt8 → Prop} (h : ∀ i : Fin 256, p (UInt8.ofNat i.val)) (c : UInt8) : p c := by
  have := h ⟨c.toNat, c.toNat_lt⟩
  simpa using this
theorem hex_eq (c : UInt8) : Lib.indexByte hexes c = (match Lx.hexv c with | some k => (k : Int) | none => -1) := by
  revert c
  refine u8_all ?_
  decide +kernel
theorem hex_lt {c : UInt8} {k : Nat} (h : Lx.hexv c = some k) : k < 16 := by
  unfold Lx.hexv at h
  split at h
  · injection h with h; omega
  · split at h
    · injection h with h; omega
    · cases h
theorem hex_some {c : UInt8} {k : Nat} (h : Lx.hexv c = some k) : Lib.indexByte hexes c = (k : Int) := by rw [hex_eq, h]
theorem hex_none {c : UInt8} (h : Lx.hexv c = none) : Lib.indexByte hexes c = -1 := by rw [hex_eq, h]
theorem bits_or (h k : Fin 16) : Go.bits .or .i64 ((h.val : Int) * 16) (k.val : Int) = (h.val : Int) * 16 + k.val := by
  revert h k
  decide +kernel


theorem hexIdx {c : UInt8} {x r : Int} (hx : x = c.toNat) (hr : Lib.indexByte hexes c = r) (w : World) :
    Calls Try.prog 32 #[.string ⟨#[48, 49, 50, 51, 52, 53, 54, 55, 56, 57, 97, 98, 99, 100, 101, 102]⟩, .int .u8 x] w fun e w' => e = .returned (.int .i64 r) ∧ w' = w := by
  refine (Try.strings_IndexByte _ _ w).mono fun e w' h => ?_
  obtain ⟨h1, h2⟩ := h
  refine ⟨h1.trans ?_, h2⟩
  rw [show x.toNat.toUInt8 = c by rw [hx]; simp]
  rw [← hr]
  rfl
theorem or_zero (k : Nat) (h : k < 16) : Go.bits .or .i64 0 (k : Int) = k := by have := bits_or ⟨0, by omega⟩ ⟨k, h⟩; simpa using this
theorem or_next (h k : Nat) (h1 : h < 16) (h2 : k < 16) : Go.bits .or .i64 ((h : Int) * 16) (k : Int) = (h : Int) * 16 + k := bits_or ⟨h, h1⟩ ⟨k, h2⟩

/-- Where the two digits' reading is. -/
def EscR (w : World) (g : Nat) (s : ByteArray) (a1 : Int) (p1 : Int × Int) (v : Value) (f5 f6 f7 : Int) (k : Nat) (sn si : Value) (wr : World) : Prop :=
  (k = 2 ∧ sn = .int .i64 0 ∧ si = .int .i64 0 ∧ At s a1 p1.1 p1.2 ∧ Scn wr g s a1 p1.1 p1.2 v f5 f6 f7 ∧ w.grownBy wr (some g)) ∨
  (k = 1 ∧ ∃ (c : UInt8) (h : Nat), suf s a1 = c :: suf s (a1 + 1) ∧ Lx.hexv c = some h ∧ sn = .int .i64 h ∧ si = .int .i64 1 ∧ At s (a1 + 1) (Lx.adv c p1).1 (Lx.adv c p1).2 ∧ Scn wr g s (a1 + 1) (Lx.adv c p1).1 (Lx.adv c p1).2 v f5 f6 f7 ∧ w.grownBy wr (some g)) ∨
  (k = 0 ∧ ∃ (c d : UInt8) (h h2 : Nat), suf s a1 = c :: d :: suf s (a1 + 2) ∧ Lx.hexv c = some h ∧ Lx.hexv d = some h2 ∧ sn = .int .i64 ((h : Int) * 16 + h2) ∧ si = .int .i64 2 ∧ At s (a1 + 2) (Lx.adv d (Lx.adv c p1)).1 (Lx.adv d (Lx.adv c p1)).2 ∧ Scn wr g s (a1 + 2) (Lx.adv d (Lx.adv c p1)).1 (Lx.adv d (Lx.adv c p1)).2 v f5 f6 f7 ∧ w.grownBy wr (some g))

theorem escP_of {w : World} {g : Nat} {s : ByteArray} {a : Int} {v : Value} {f5 f6 f7 : Int} {res res' : Lx.Esc} {x : Ending} {w' : World} (h : EscP w g s a v f5 f6 f7 res x w') (e : res' = res) : EscP w g s a v f5 f6 f7 res' x w' := e ▸ h

set_option maxHeartbeats 1000000 in
set_option maxRecDepth 100000 in
theorem escape_calls {g : Nat} {s : ByteArray} {a line col : Int} {v : Value} {f5 f6 f7 : Int} {w : World} (hb : Scn w g s a line col v f5 f6 f7) (hA : At s a line col) :
    Calls Try.prog 39 #[.pointer (some ⟨g, 0, none⟩)] w (EscP w g s a v f5 f6 f7 (Lx.esc (suf s a) (line, col))) := by
  have HA := Aside0.mk hA
  have HS := Aside0.mk hb
  have q0 := hA.a0
  have q1 := hA.a1
  clear hA hb
  by_cases hlt : a < (s.size : Int)
  · obtain ⟨c, hc, hbt⟩ := suf_cons q0 hlt
    have HC := Aside0.mk (And.intro hc hbt)
    have hx4 := bt_at s a
    have p4 : (0 ≤ a) = True := eq_true q0
    have q4 : (a < (s.size : Int)) = True := eq_true hlt
    rw [hc]
    clear hc hbt
    have hfin : ∀ (b : UInt8) (w2 w3 : World), w.grownBy w2 (some g) → Lx.esc (c :: suf s (a + 1)) (line, col) = .ok b (suf s (a + 1)) (Lx.adv c (line, col)) → Scn w3 g s (a + 1) (Lx.adv c (line, col)).1 (Lx.adv c (line, col)).2 v f5 f6 f7 → w2.grownBy w3 (some g) → EscP w g s a v f5 f6 f7 (Lx.esc (c :: suf s (a + 1)) (line, col)) (.returned (.tuple #[.int .u8 b.toNat, .bool true])) w3 := by
      intro b w2 w3 hG2 he hS hG
      refine escP_of ?_ he
      exact ⟨rfl, a + 1, rfl, HA.out.step hlt c, hS, hG2.trans hG, by omega⟩
    have FIN0 := Aside0.mk hfin
    clear hfin
    go_enter Try.func39, Try.ntmps39
    go_wp2_with (go_at_call 18; refine (more_yes HS.out hlt).mono ?_; rintro e w1 ⟨rfl, n1, hn1⟩)
    have HS1 : Aside0 (Scn w1 g s a line col v f5 f6 f7) := ⟨by rw [← hn1]; exact HS.out⟩
    have HG1 : Aside0 (w.grownBy w1 (some g)) := ⟨by rw [← hn1]; exact grown_drewN (grown_refl _ _) _⟩
    clear hn1
    have h0 := (blk_cell HS1.out 0).trans rfl
    have h1 := (blk_cell HS1.out 1).trans rfl
    go_quiet (fail)
    clear h0 h1 p4 q4 hx4
    generalize hW2 : w1.drewN nq = w2
    have HS2 : Aside0 (Scn w2 g s a line col v f5 f6 f7) := ⟨by rw [← hW2]; exact HS1.out⟩
    have HG2 : Aside0 (w.grownBy w2 (some g)) := ⟨by rw [← hW2]; exact grown_drewN HG1.out _⟩
    clear hW2 HS1 HG1
    have FIN : Aside0 (∀ (b : UInt8) (w3 : World), Lx.esc (c :: suf s (a + 1)) (line, col) = .ok b (suf s (a + 1)) (Lx.adv c (line, col)) → Scn w3 g s (a + 1) (Lx.adv c (line, col)).1 (Lx.adv c (line, col)).2 v f5 f6 f7 → w2.grownBy w3 (some g) → EscP w g s a v f5 f6 f7 (Lx.esc (c :: suf s (a + 1)) (line, col)) (.returned (.tuple #[.int .u8 b.toNat, .bool true])) w3) := ⟨fun b w3 => FIN0.out b w2 w3 HG2.out⟩
    clear FIN0
    by_cases hcase : bt s a = 92
    · have HCS := Aside0.mk hcase
      have y0 : (bt s a == 92) = true := beq_iff_eq.mpr hcase
      have ESC : Aside0 (Lx.esc (c :: suf s (a + 1)) (line, col) = .ok c (suf s (a + 1)) (Lx.adv c (line, col))) := ⟨by
        have e : c.toNat = 92 := by have := HC.out.2; have := HCS.out; omega
        simp [Lx.esc, e]⟩
      clear hcase 
      go_wp2_with (go_at_call 29; refine (step_calls HS2.out HA.out hlt c HC.out.2).mono ?_; rintro e w3 ⟨rfl, hS3, hG3⟩)
      go_ret2
      have fin := FIN.out c w3 ESC.out hS3 hG3
      rw [← HC.out.2] at fin
      exact fin
    · skip
      by_cases hcase : bt s a = 39
      · have HCS := Aside0.mk hcase
        have n0 : (bt s a == 92) = false := beq_eq_false_iff_ne.mpr (by omega)
        have y0 : (bt s a == 39) = true := beq_iff_eq.mpr hcase
        have ESC : Aside0 (Lx.esc (c :: suf s (a + 1)) (line, col) = .ok c (suf s (a + 1)) (Lx.adv c (line, col))) := ⟨by
          have e : c.toNat = 39 := by have := HC.out.2; have := HCS.out; omega
          simp [Lx.esc, e]⟩
        clear hcase 
        go_wp2_with (go_at_call 29; refine (step_calls HS2.out HA.out hlt c HC.out.2).mono ?_; rintro e w3 ⟨rfl, hS3, hG3⟩)
        go_ret2
        have fin := FIN.out c w3 ESC.out hS3 hG3
        rw [← HC.out.2] at fin
        exact fin
      · skip
        by_cases hcase : bt s a = 34
        · have HCS := Aside0.mk hcase
          have n0 : (bt s a == 92) = false := beq_eq_false_iff_ne.mpr (by omega)
          have n1 : (bt s a == 39) = false := beq_eq_false_iff_ne.mpr (by omega)
          have y0 : (bt s a == 34) = true := beq_iff_eq.mpr hcase
          have ESC : Aside0 (Lx.esc (c :: suf s (a + 1)) (line, col) = .ok c (suf s (a + 1)) (Lx.adv c (line, col))) := ⟨by
            have e : c.toNat = 34 := by have := HC.out.2; have := HCS.out; omega
            simp [Lx.esc, e]⟩
          clear hcase 
          go_wp2_with (go_at_call 29; refine (step_calls HS2.out HA.out hlt c HC.out.2).mono ?_; rintro e w3 ⟨rfl, hS3, hG3⟩)
          go_ret2
          have fin := FIN.out c w3 ESC.out hS3 hG3
          rw [← HC.out.2] at fin
          exact fin
        · skip
          by_cases hcase : bt s a = 110
          · have HCS := Aside0.mk hcase
            have n0 : (bt s a == 92) = false := beq_eq_false_iff_ne.mpr (by omega)
            have n1 : (bt s a == 39) = false := beq_eq_false_iff_ne.mpr (by omega)
            have n2 : (bt s a == 34) = false := beq_eq_false_iff_ne.mpr (by omega)
            have y0 : (bt s a == 110) = true := beq_iff_eq.mpr hcase
            have ESC : Aside0 (Lx.esc (c :: suf s (a + 1)) (line, col) = .ok 10 (suf s (a + 1)) (Lx.adv c (line, col))) := ⟨by
              have e : c.toNat = 110 := by have := HC.out.2; have := HCS.out; omega
              simp [Lx.esc, e]⟩
            clear hcase 
            go_wp2_with (go_at_call 29; refine (step_calls HS2.out HA.out hlt c HC.out.2).mono ?_; rintro e w3 ⟨rfl, hS3, hG3⟩)
            go_ret2
            exact FIN.out 10 w3 ESC.out hS3 hG3
          · skip
            by_cases hcase : bt s a = 116
            · have HCS := Aside0.mk hcase
              have n0 : (bt s a == 92) = false := beq_eq_false_iff_ne.mpr (by omega)
              have n1 : (bt s a == 39) = false := beq_eq_false_iff_ne.mpr (by omega)
              have n2 : (bt s a == 34) = false := beq_eq_false_iff_ne.mpr (by omega)
              have n3 : (bt s a == 110) = false := beq_eq_false_iff_ne.mpr (by omega)
              have y0 : (bt s a == 116) = true := beq_iff_eq.mpr hcase
              have ESC : Aside0 (Lx.esc (c :: suf s (a + 1)) (line, col) = .ok 9 (suf s (a + 1)) (Lx.adv c (line, col))) := ⟨by
                have e : c.toNat = 116 := by have := HC.out.2; have := HCS.out; omega
                simp [Lx.esc, e]⟩
              clear hcase 
              go_wp2_with (go_at_call 29; refine (step_calls HS2.out HA.out hlt c HC.out.2).mono ?_; rintro e w3 ⟨rfl, hS3, hG3⟩)
              go_ret2
              exact FIN.out 9 w3 ESC.out hS3 hG3
            · skip
              by_cases hcase : bt s a = 120
              · have HCS := Aside0.mk hcase
                have n0 : (bt s a == 92) = false := beq_eq_false_iff_ne.mpr (by omega)
                have n1 : (bt s a == 39) = false := beq_eq_false_iff_ne.mpr (by omega)
                have n2 : (bt s a == 34) = false := beq_eq_false_iff_ne.mpr (by omega)
                have n3 : (bt s a == 110) = false := beq_eq_false_iff_ne.mpr (by omega)
                have n4 : (bt s a == 116) = false := beq_eq_false_iff_ne.mpr (by omega)
                have y0 : (bt s a == 120) = true := beq_iff_eq.mpr hcase
                have ESC : Aside0 (Lx.esc (c :: suf s (a + 1)) (line, col) = Lx.escX (suf s (a + 1)) (Lx.adv c (line, col))) := ⟨by
                  have e : c.toNat = 120 := by have := HC.out.2; have := HCS.out; omega
                  simp [Lx.esc, e]⟩
                clear hcase FIN
                go_wp2_with (go_at_call 29; refine (step_calls HS2.out HA.out hlt c HC.out.2).mono ?_; rintro e w3 ⟨rfl, hS3, hG3⟩)
                have KS := Aside0.mk hS3
                have KG := Aside0.mk (HG2.out.trans hG3)
                have KA := Aside0.mk (HA.out.step hlt c)
                clear hS3 hG3 n0 n1 n2 n3 n4 y0
                generalize hp1 : Lx.adv c (line, col) = p1 at *
                have HP1 := Aside0.mk hp1
                clear hp1
                go_loopg [5, 39] 2 (fun k sn si wr => EscR w g s (a + 1) p1 v f5 f6 f7 k sn si wr)
                case atStart => exact .inl ⟨rfl, rfl, rfl, KA.out, KS.out, KG.out⟩
                case round =>
                  rcases hrel with ⟨rfl, rfl, rfl, hA1, hS1, hG1⟩ | ⟨rfl, c1, h1, hc1, hh1, rfl, rfl, hA1, hS1, hG1⟩ | ⟨rfl, c1, c2, h1, h2, hc1, hh1, hh2, rfl, rfl, hA1, hS1, hG1⟩
                  · have LA := Aside0.mk hA1
                    have LS := Aside0.mk hS1
                    have LG := Aside0.mk hG1
                    have r0 := hA1.a0
                    clear hA1 hS1 hG1
                    by_cases hlt1 : (a + 1) < (s.size : Int)
                    · obtain ⟨c1, hc1, hb1⟩ := suf_cons r0 hlt1
                      have HC1 := Aside0.mk (And.intro hc1 hb1)
                      clear hc1 hb1
                      go_wp2_with (go_at_call 18; refine (more_yes LS.out hlt1).mono ?_; rintro e w4 ⟨rfl, n4, hn4⟩)
                      have LS4 : Aside0 (Scn w4 g s (a + 1) p1.1 p1.2 v f5 f6 f7) := ⟨by rw [← hn4]; exact LS.out⟩
                      have LG4 : Aside0 (w.grownBy w4 (some g)) := ⟨by rw [← hn4]; exact grown_drewN LG.out _⟩
                      clear hn4
                      have h0 := (blk_cell LS4.out 0).trans rfl
                      have h1 := (blk_cell LS4.out 1).trans rfl
                      have p4 : (0 ≤ (a + 1)) = True := eq_true r0
                      have q4 : ((a + 1) < (s.size : Int)) = True := eq_true hlt1
                      have hx4 := bt_at s (a + 1)
                      cases hh : Lx.hexv c1 with
                      | none =>
                        have HI := Aside0.mk (hex_none hh)
                        have HH := Aside0.mk hh
                        clear hh
                        go_quiet ((go_at_call 32; exact Calls.quiet_of_same (hexIdx HC1.out.2 HI.out _)))
                        clear h0 h1 p4 q4 hx4
                        go_wp2_with fail
                        go_ret2
                        refine escP_of (res := .bad (c1 :: suf s ((a + 1) + 1)) p1) ⟨rfl, (a + 1), LA.out, LS4.out, grown_drewN LG4.out _⟩ (ESC.out.trans ?_)
                        rw [HC1.out.1]
                        simp [Lx.escX, HH.out]
                      | some d1 =>
                        have HI := Aside0.mk (hex_some hh)
                        have HH := Aside0.mk hh
                        have hd1 := hex_lt hh
                        clear hh
                        go_quiet ((go_at_call 32; exact Calls.quiet_of_same (hexIdx HC1.out.2 HI.out _)))
                        clear h0 h1 p4 q4 hx4
                        have hor := or_zero d1 hd1
                        go_wp2_with (go_at_call 29; refine (step_calls (LS4.out.drewN _) LA.out hlt1 c1 HC1.out.2).mono ?_; rintro e w5 ⟨rfl, hS5, hG5⟩)
                        clear hor
                        go_roundg 1
                        case measure => omega
                        case rel => exact .inr (.inl ⟨rfl, c1, d1, HC1.out.1, HH.out, rfl, rfl, LA.out.step hlt1 c1, hS5, (grown_drewN LG4.out _).trans hG5⟩)
                    · have hle1 : (s.size : Int) ≤ (a + 1) := by omega
                      clear hlt1
                      go_wp2_with (go_at_call 18; refine (more_no LS.out hle1).mono ?_; rintro e w4 ⟨rfl, n4, hn4⟩)
                      go_ret2
                      refine escP_of (res := .bad [] p1) ⟨rfl, (a + 1), LA.out, by rw [← hn4]; exact LS.out, by rw [← hn4]; exact grown_drewN LG.out _⟩ (ESC.out.trans ?_)
                      rw [suf_nil hle1]
                      rfl
                  · have LA := Aside0.mk hA1
                    have LS := Aside0.mk hS1
                    have LG := Aside0.mk hG1
                    have r0 := hA1.a0
                    have HC0 := Aside0.mk (And.intro hc1 hh1)
                    have hd0 := hex_lt hh1
                    clear hA1 hS1 hG1 hc1 hh1
                    generalize hp2 : Lx.adv c1 p1 = p2 at *
                    have HP2 := Aside0.mk hp2
                    clear hp2
                    by_cases hlt1 : (a + 1) + 1 < (s.size : Int)
                    · obtain ⟨c2, hc2, hb2⟩ := suf_cons r0 hlt1
                      have HC2 := Aside0.mk (And.intro hc2 hb2)
                      clear hc2 hb2
                      go_wp2_with (go_at_call 18; refine (more_yes LS.out hlt1).mono ?_; rintro e w4 ⟨rfl, n4, hn4⟩)
                      have LS4 : Aside0 (Scn w4 g s ((a + 1) + 1) p2.1 p2.2 v f5 f6 f7) := ⟨by rw [← hn4]; exact LS.out⟩
                      have LG4 : Aside0 (w.grownBy w4 (some g)) := ⟨by rw [← hn4]; exact grown_drewN LG.out _⟩
                      clear hn4
                      have h0 := (blk_cell LS4.out 0).trans rfl
                      have h1' := (blk_cell LS4.out 1).trans rfl
                      have p4 : (0 ≤ (a + 1) + 1) = True := eq_true r0
                      have q4 : ((a + 1) + 1 < (s.size : Int)) = True := eq_true hlt1
                      have hx4 := bt_at s ((a + 1) + 1)
                      cases hh : Lx.hexv c2 with
                      | none =>
                        have HI := Aside0.mk (hex_none hh)
                        have HH := Aside0.mk hh
                        clear hh
                        go_quiet ((go_at_call 32; exact Calls.quiet_of_same (hexIdx HC2.out.2 HI.out _)))
                        clear h0 h1' p4 q4 hx4
                        go_wp2_with fail
                        go_ret2
                        refine escP_of (res := .bad (c2 :: suf s ((a + 1) + 1 + 1)) p2) ⟨rfl, (a + 1) + 1, LA.out, LS4.out, grown_drewN LG4.out _⟩ (ESC.out.trans ?_)
                        rw [HC0.out.1, HC2.out.1]
                        simp [Lx.escX, HC0.out.2, HH.out, HP2.out]
                      | some d1 =>
                        have HI := Aside0.mk (hex_some hh)
                        have HH := Aside0.mk hh
                        have hd1 := hex_lt hh
                        clear hh
                        go_quiet ((go_at_call 32; exact Calls.quiet_of_same (hexIdx HC2.out.2 HI.out _)))
                        clear h0 h1' p4 q4 hx4
                        have hor := or_next h1 d1 hd0 hd1
                        go_wp2_with (go_at_call 29; refine (step_calls (LS4.out.drewN _) LA.out hlt1 c2 HC2.out.2).mono ?_; rintro e w5 ⟨rfl, hS5, hG5⟩)
                        clear hor
                        go_roundg 0
                        case measure => omega
                        case rel =>
                          refine .inr (.inr ⟨rfl, c1, c2, h1, d1, ?_, HC0.out.2, HH.out, rfl, rfl, ?_, ?_, (grown_drewN LG4.out _).trans hG5⟩)
                          · rw [HC0.out.1, HC2.out.1, show (a + 1) + 1 + 1 = (a + 1) + 2 by omega]
                          · rw [HP2.out, show (a + 1) + 2 = (a + 1) + 1 + 1 by omega]; exact LA.out.step hlt1 c2
                          · rw [HP2.out, show (a + 1) + 2 = (a + 1) + 1 + 1 by omega]; exact hS5
                    · have hle1 : (s.size : Int) ≤ (a + 1) + 1 := by omega
                      clear hlt1
                      go_wp2_with (go_at_call 18; refine (more_no LS.out hle1).mono ?_; rintro e w4 ⟨rfl, n4, hn4⟩)
                      go_ret2
                      refine escP_of (res := .bad [] p2) ⟨rfl, (a + 1) + 1, LA.out, by rw [← hn4]; exact LS.out, by rw [← hn4]; exact grown_drewN LG.out _⟩ (ESC.out.trans ?_)
                      rw [HC0.out.1, suf_nil hle1]
                      simp [Lx.escX, HC0.out.2, HP2.out]
                  · have hb1 := hex_lt hh1
                    have hb2 := hex_lt hh2
                    have LL := Aside0.mk (And.intro hc1 (And.intro hh1 (And.intro hh2 (And.intro hA1 (And.intro hS1 hG1)))))
                    clear hc1 hh1 hh2 hA1 hS1 hG1
                    go_wp2_with fail
                    go_ret2
                    refine escP_of (res := .ok (UInt8.ofNat (16 * h1 + h2)) (suf s ((a + 1) + 2)) (Lx.adv c2 (Lx.adv c1 p1))) ?_ (ESC.out.trans ?_)
                    · refine ⟨?_, (a + 1) + 2, rfl, LL.out.2.2.2.1, LL.out.2.2.2.2.1, LL.out.2.2.2.2.2, by omega⟩
                      have ev : ((h1 : Int) * 16 + (h2 : Int)) = ((UInt8.ofNat (16 * h1 + h2)).toNat : Int) := by
                        rw [UInt8.toNat_ofNat', Nat.mod_eq_of_lt (by omega)]
                        omega
                      rw [← ev]
                      rfl
                    · rw [LL.out.1]
                      simp [Lx.escX, LL.out.2.1, LL.out.2.2.1]
              · have n0 : (bt s a == 92) = false := beq_eq_false_iff_ne.mpr (by omega)
                have n1 : (bt s a == 39) = false := beq_eq_false_iff_ne.mpr (by omega)
                have n2 : (bt s a == 34) = false := beq_eq_false_iff_ne.mpr (by omega)
                have n3 : (bt s a == 110) = false := beq_eq_false_iff_ne.mpr (by omega)
                have n4 : (bt s a == 116) = false := beq_eq_false_iff_ne.mpr (by omega)
                have n5 : (bt s a == 120) = false := beq_eq_false_iff_ne.mpr (by omega)
                have ESC : Aside0 (Lx.esc (c :: suf s (a + 1)) (line, col) = .bad (c :: suf s (a + 1)) (line, col)) := ⟨by
                  have e := HC.out.2
                  have e0 : ¬ (c.toNat = 92 ∨ c.toNat = 39 ∨ c.toNat = 34) := by omega
                  simp only [Lx.esc]
                  rw [if_neg e0, if_neg (by omega), if_neg (by omega), if_neg (by omega)]⟩
                have AA := Aside0.mk (show True from trivial)
                go_wp2_with fail
                go_ret2
                exact escP_of (res := .bad (c :: suf s (a + 1)) (line, col)) ⟨rfl, a, HA.out, HS2.out, HG2.out⟩ ESC.out
  · rw [suf_nil (by omega)]
    have hle : (s.size : Int) ≤ a := by omega
    clear hlt
    go_enter Try.func39, Try.ntmps39
    go_wp2_with (go_at_call 18; refine (more_no HS.out hle).mono ?_; rintro e w1 ⟨rfl, n1, hn1⟩)
    go_ret2
    exact ⟨rfl, a, HA.out, by rw [← hn1]; exact HS.out, by rw [← hn1]; exact grown_drewN (grown_refl _ _) _⟩
end Go.Proofs.Ytohbjgckcbdegaa.Lw
