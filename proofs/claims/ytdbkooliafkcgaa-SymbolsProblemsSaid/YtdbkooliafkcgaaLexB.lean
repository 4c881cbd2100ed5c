/- The walk of package lex: escape. The walk of package lex: literal. The walk of package lex: token. The walk of lex.Scan. -/
import Derived.Test.YtdbkooliafkcgaaLexA
import Derived.Test.YtdbkooliafkcgaaShelf
import Derived.Lib.LazyBuf
set_option linter.unusedVariables false
set_option linter.unusedSimpArgs false
namespace Go.Proofs.Ytdbkooliafkcgaa.Lw
open Go.RowKit Go.Proofs.YtdbkooliafkcgaaW.PrintWords Go.Proofs.YtdbkooliafkcgaaW.PrintLast Go.Proofs.YtdbkooliafkcgaaW.PrintMore Go.Proofs.Ytdbkooliafkcgaa

def EscP (w : World) (g : Nat) (s : ByteArray) (a : Int) (v : Value) (f5 f6 f7 : Int) (res : Lx.Esc) (x : Ending) (w' : World) : Prop :=
  match res with
  | .ok b rest p => x = .returned (.tuple #[.int .u8 b.toNat, .bool true]) ∧ ∃ a' : Int, suf s a' = rest ∧ At s a' p.1 p.2 ∧ Scn w' g s a' p.1 p.2 v f5 f6 f7 ∧ w.grownBy w' (some g) ∧ a < a'
  | .bad rest p => x = .returned (.tuple #[.int .u8 0, .bool false]) ∧ ∃ a' : Int, At s a' p.1 p.2 ∧ Scn w' g s a' p.1 p.2 v f5 f6 f7 ∧ w.grownBy w' (some g)

def hexes : List UInt8 := [48, 49, 50, 51, 52, 53, 54, 55, 56, 57, 97, 98, 99, 100, 101, 102]
theorem u8_all {p : UInt8 → Prop} (h : ∀ i : Fin 256, p (UInt8.ofNat i.val)) (c : UInt8) : p c := by
  have := h ⟨c.toNat, c.toNat_lt⟩
  simpa using this
theorem hex_eq (c : UInt8) : Lib.indexByte hexes c = (match Lx.hexv c with | some k => (k : Int) | none => -1) := by
  revert c
  refine u8_all ?_
  decide +kernel
theorem hex_lt {c : UInt8} {k : Nat} (h : Lx.hexv c = some k) : k < 16 := by
  unfold Lx.hexv at h
  split at h
  · injection h with h; omega
  · split at h
    · injection h with h; omega
    · cases h
theorem hex_some {c : UInt8} {k : Nat} (h : Lx.hexv c = some k) : Lib.indexByte hexes c = (k : Int) := by rw [hex_eq, h]
theorem hex_none {c : UInt8} (h : Lx.hexv c = none) : Lib.indexByte hexes c = -1 := by rw [hex_eq, h]
theorem bits_or (h k : Fin 16) : Go.bits .or .i64 ((h.val : Int) * 16) (k.val : Int) = (h.val : Int) * 16 + k.val := by
  revert h k
  decide +kernel


theorem hexIdx {c : UInt8} {x r : Int} (hx : x = c.toNat) (hr : Lib.indexByte hexes c = r) (w : World) :
    Calls Try.prog 50 #[.string ⟨#[48, 49, 50, 51, 52, 53, 54, 55, 56, 57, 97, 98, 99, 100, 101, 102]⟩, .int .u8 x] w fun e w' => e = .returned (.int .i64 r) ∧ w' = w := by
  refine (Try.strings_IndexByte _ _ w).mono fun e w' h => ?_
  obtain ⟨h1, h2⟩ := h
  refine ⟨h1.trans ?_, h2⟩
  rw [show x.toNat.toUInt8 = c by rw [hx]; simp]
  rw [← hr]
  rfl
theorem or_zero (k : Nat) (h : k < 16) : Go.bits .or .i64 0 (k : Int) = k := by have := bits_or ⟨0, by omega⟩ ⟨k, h⟩; simpa using this
theorem or_next (h k : Nat) (h1 : h < 16) (h2 : k < 16) : Go.bits .or .i64 ((h : Int) * 16) (k : Int) = (h : Int) * 16 + k := bits_or ⟨h, h1⟩ ⟨k, h2⟩

/-- Where the two digits' reading is. -/
def EscR (w : World) (g : Nat) (s : ByteArray) (a1 : Int) (p1 : Int × Int) (v : Value) (f5 f6 f7 : Int) (k : Nat) (sn si : Value) (wr : World) : Prop :=
  (k = 2 ∧ sn = .int .i64 0 ∧ si = .int .i64 0 ∧ At s a1 p1.1 p1.2 ∧ Scn wr g s a1 p1.1 p1.2 v f5 f6 f7 ∧ w.grownBy wr (some g)) ∨
  (k = 1 ∧ ∃ (c : UInt8) (h : Nat), suf s a1 = c :: suf s (a1 + 1) ∧ Lx.hexv c = some h ∧ sn = .int .i64 h ∧ si = .int .i64 1 ∧ At s (a1 + 1) (Lx.adv c p1).1 (Lx.adv c p1).2 ∧ Scn wr g s (a1 + 1) (Lx.adv c p1).1 (Lx.adv c p1).2 v f5 f6 f7 ∧ w.grownBy wr (some g)) ∨
  (k = 0 ∧ ∃ (c d : UInt8) (h h2 : Nat), suf s a1 = c :: d :: suf s (a1 + 2) ∧ Lx.hexv c = some h ∧ Lx.hexv d = some h2 ∧ sn = .int .i64 ((h : Int) * 16 + h2) ∧ si = .int .i64 2 ∧ At s (a1 + 2) (Lx.adv d (Lx.adv c p1)).1 (Lx.adv d (Lx.adv c p1)).2 ∧ Scn wr g s (a1 + 2) (Lx.adv d (Lx.adv c p1)).1 (Lx.adv d (Lx.adv c p1)).2 v f5 f6 f7 ∧ w.grownBy wr (some g))

theorem escP_of {w : World} {g : Nat} {s : ByteArray} {a : Int} {v : Value} {f5 f6 f7 : Int} {res res' : Lx.Esc} {x : Ending} {w' : World} (h : EscP w g s a v f5 f6 f7 res x w') (e : res' = res) : EscP w g s a v f5 f6 f7 res' x w' := e ▸ h

set_option maxHeartbeats 1000000 in
set_option maxRecDepth 100000 in
theorem escape_calls {g : Nat} {s : ByteArray} {a line col : Int} {v : Value} {f5 f6 f7 : Int} {w : World} (hb : Scn w g s a line col v f5 f6 f7) (hA : At s a line col) :
    Calls Try.prog 55 #[.pointer (some ⟨g, 0, none⟩)] w (EscP w g s a v f5 f6 f7 (Lx.esc (suf s a) (line, col))) := by
  have HA := Aside0.mk hA
  have HS := Aside0.mk hb
  have q0 := hA.a0
  have q1 := hA.a1
  clear hA hb
  by_cases hlt : a < (s.size : Int)
  · obtain ⟨c, hc, hbt⟩ := suf_cons q0 hlt
    have HC := Aside0.mk (And.intro hc hbt)
    have hx4 := bt_at s a
    have p4 : (0 ≤ a) = True := eq_true q0
    have q4 : (a < (s.size : Int)) = True := eq_true hlt
    rw [hc]
    clear hc hbt
    have hfin : ∀ (b : UInt8) (w2 w3 : World), w.grownBy w2 (some g) → Lx.esc (c :: suf s (a + 1)) (line, col) = .ok b (suf s (a + 1)) (Lx.adv c (line, col)) → Scn w3 g s (a + 1) (Lx.adv c (line, col)).1 (Lx.adv c (line, col)).2 v f5 f6 f7 → w2.grownBy w3 (some g) → EscP w g s a v f5 f6 f7 (Lx.esc (c :: suf s (a + 1)) (line, col)) (.returned (.tuple #[.int .u8 b.toNat, .bool true])) w3 := by
      intro b w2 w3 hG2 he hS hG
      refine escP_of ?_ he
      exact ⟨rfl, a + 1, rfl, HA.out.step hlt c, hS, hG2.trans hG, by omega⟩
    have FIN0 := Aside0.mk hfin
    clear hfin
    go_enter Try.func55, Try.ntmps55
    go_wp2_with (go_at_call 35; refine (more_yes HS.out hlt).mono ?_; rintro e w1 ⟨rfl, n1, hn1⟩)
    have HS1 : Aside0 (Scn w1 g s a line col v f5 f6 f7) := ⟨by rw [← hn1]; exact HS.out⟩
    have HG1 : Aside0 (w.grownBy w1 (some g)) := ⟨by rw [← hn1]; exact grown_drewN (grown_refl _ _) _⟩
    clear hn1
    have h0 := (blk_cell HS1.out 0).trans rfl
    have h1 := (blk_cell HS1.out 1).trans rfl
    go_quiet (fail)
    clear h0 h1 p4 q4 hx4
    generalize hW2 : w1.drewN nq = w2
    have HS2 : Aside0 (Scn w2 g s a line col v f5 f6 f7) := ⟨by rw [← hW2]; exact HS1.out⟩
    have HG2 : Aside0 (w.grownBy w2 (some g)) := ⟨by rw [← hW2]; exact grown_drewN HG1.out _⟩
    clear hW2 HS1 HG1
    have FIN : Aside0 (∀ (b : UInt8) (w3 : World), Lx.esc (c :: suf s (a + 1)) (line, col) = .ok b (suf s (a + 1)) (Lx.adv c (line, col)) → Scn w3 g s (a + 1) (Lx.adv c (line, col)).1 (Lx.adv c (line, col)).2 v f5 f6 f7 → w2.grownBy w3 (some g) → EscP w g s a v f5 f6 f7 (Lx.esc (c :: suf s (a + 1)) (line, col)) (.returned (.tuple #[.int .u8 b.toNat, .bool true])) w3) := ⟨fun b w3 => FIN0.out b w2 w3 HG2.out⟩
    clear FIN0
    by_cases hcase : bt s a = 92
    · have HCS := Aside0.mk hcase
      have y0 : (bt s a == 92) = true := beq_iff_eq.mpr hcase
      have ESC : Aside0 (Lx.esc (c :: suf s (a + 1)) (line, col) = .ok c (suf s (a + 1)) (Lx.adv c (line, col))) := ⟨by
        have e : c.toNat = 92 := by have := HC.out.2; have := HCS.out; omega
        simp [Lx.esc, e]⟩
      clear hcase 
      go_wp2_with (go_at_call 46; refine (step_calls HS2.out HA.out hlt c HC.out.2).mono ?_; rintro e w3 ⟨rfl, hS3, hG3⟩)
      go_ret2
      have fin := FIN.out c w3 ESC.out hS3 hG3
      rw [← HC.out.2] at fin
      exact fin
    · skip
      by_cases hcase : bt s a = 39
      · have HCS := Aside0.mk hcase
        have n0 : (bt s a == 92) = false := beq_eq_false_iff_ne.mpr (by omega)
        have y0 : (bt s a == 39) = true := beq_iff_eq.mpr hcase
        have ESC : Aside0 (Lx.esc (c :: suf s (a + 1)) (line, col) = .ok c (suf s (a + 1)) (Lx.adv c (line, col))) := ⟨by
          have e : c.toNat = 39 := by have := HC.out.2; have := HCS.out; omega
          simp [Lx.esc, e]⟩
        clear hcase 
        go_wp2_with (go_at_call 46; refine (step_calls HS2.out HA.out hlt c HC.out.2).mono ?_; rintro e w3 ⟨rfl, hS3, hG3⟩)
        go_ret2
        have fin := FIN.out c w3 ESC.out hS3 hG3
        rw [← HC.out.2] at fin
        exact fin
      · skip
        by_cases hcase : bt s a = 34
        · have HCS := Aside0.mk hcase
          have n0 : (bt s a == 92) = false := beq_eq_false_iff_ne.mpr (by omega)
          have n1 : (bt s a == 39) = false := beq_eq_false_iff_ne.mpr (by omega)
          have y0 : (bt s a == 34) = true := beq_iff_eq.mpr hcase
          have ESC : Aside0 (Lx.esc (c :: suf s (a + 1)) (line, col) = .ok c (suf s (a + 1)) (Lx.adv c (line, col))) := ⟨by
            have e : c.toNat = 34 := by have := HC.out.2; have := HCS.out; omega
            simp [Lx.esc, e]⟩
          clear hcase 
          go_wp2_with (go_at_call 46; refine (step_calls HS2.out HA.out hlt c HC.out.2).mono ?_; rintro e w3 ⟨rfl, hS3, hG3⟩)
          go_ret2
          have fin := FIN.out c w3 ESC.out hS3 hG3
          rw [← HC.out.2] at fin
          exact fin
        · skip
          by_cases hcase : bt s a = 110
          · have HCS := Aside0.mk hcase
            have n0 : (bt s a == 92) = false := beq_eq_false_iff_ne.mpr (by omega)
            have n1 : (bt s a == 39) = false := beq_eq_false_iff_ne.mpr (by omega)
            have n2 : (bt s a == 34) = false := beq_eq_false_iff_ne.mpr (by omega)
            have y0 : (bt s a == 110) = true := beq_iff_eq.mpr hcase
            have ESC : Aside0 (Lx.esc (c :: suf s (a + 1)) (line, col) = .ok 10 (suf s (a + 1)) (Lx.adv c (line, col))) := ⟨by
              have e : c.toNat = 110 := by have := HC.out.2; have := HCS.out; omega
              simp [Lx.esc, e]⟩
            clear hcase 
            go_wp2_with (go_at_call 46; refine (step_calls HS2.out HA.out hlt c HC.out.2).mono ?_; rintro e w3 ⟨rfl, hS3, hG3⟩)
            go_ret2
            exact FIN.out 10 w3 ESC.out hS3 hG3
          · skip
            by_cases hcase : bt s a = 116
            · have HCS := Aside0.mk hcase
              have n0 : (bt s a == 92) = false := beq_eq_false_iff_ne.mpr (by omega)
              have n1 : (bt s a == 39) = false := beq_eq_false_iff_ne.mpr (by omega)
              have n2 : (bt s a == 34) = false := beq_eq_false_iff_ne.mpr (by omega)
              have n3 : (bt s a == 110) = false := beq_eq_false_iff_ne.mpr (by omega)
              have y0 : (bt s a == 116) = true := beq_iff_eq.mpr hcase
              have ESC : Aside0 (Lx.esc (c :: suf s (a + 1)) (line, col) = .ok 9 (suf s (a + 1)) (Lx.adv c (line, col))) := ⟨by
                have e : c.toNat = 116 := by have := HC.out.2; have := HCS.out; omega
                simp [Lx.esc, e]⟩
              clear hcase 
              go_wp2_with (go_at_call 46; refine (step_calls HS2.out HA.out hlt c HC.out.2).mono ?_; rintro e w3 ⟨rfl, hS3, hG3⟩)
              go_ret2
              exact FIN.out 9 w3 ESC.out hS3 hG3
            · skip
              by_cases hcase : bt s a = 120
              · have HCS := Aside0.mk hcase
                have n0 : (bt s a == 92) = false := beq_eq_false_iff_ne.mpr (by omega)
                have n1 : (bt s a == 39) = false := beq_eq_false_iff_ne.mpr (by omega)
                have n2 : (bt s a == 34) = false := beq_eq_false_iff_ne.mpr (by omega)
                have n3 : (bt s a == 110) = false := beq_eq_false_iff_ne.mpr (by omega)
                have n4 : (bt s a == 116) = false := beq_eq_false_iff_ne.mpr (by omega)
                have y0 : (bt s a == 120) = true := beq_iff_eq.mpr hcase
                have ESC : Aside0 (Lx.esc (c :: suf s (a + 1)) (line, col) = Lx.escX (suf s (a + 1)) (Lx.adv c (line, col))) := ⟨by
                  have e : c.toNat = 120 := by have := HC.out.2; have := HCS.out; omega
                  simp [Lx.esc, e]⟩
                clear hcase FIN
                go_wp2_with (go_at_call 46; refine (step_calls HS2.out HA.out hlt c HC.out.2).mono ?_; rintro e w3 ⟨rfl, hS3, hG3⟩)
                have KS := Aside0.mk hS3
                have KG := Aside0.mk (HG2.out.trans hG3)
                have KA := Aside0.mk (HA.out.step hlt c)
                clear hS3 hG3 n0 n1 n2 n3 n4 y0
                generalize hp1 : Lx.adv c (line, col) = p1 at *
                have HP1 := Aside0.mk hp1
                clear hp1
                go_loopg [5, 39] 2 (fun k sn si wr => EscR w g s (a + 1) p1 v f5 f6 f7 k sn si wr)
                case atStart => exact .inl ⟨rfl, rfl, rfl, KA.out, KS.out, KG.out⟩
                case round =>
                  rcases hrel with ⟨rfl, rfl, rfl, hA1, hS1, hG1⟩ | ⟨rfl, c1, h1, hc1, hh1, rfl, rfl, hA1, hS1, hG1⟩ | ⟨rfl, c1, c2, h1, h2, hc1, hh1, hh2, rfl, rfl, hA1, hS1, hG1⟩
                  · have LA := Aside0.mk hA1
                    have LS := Aside0.mk hS1
                    have LG := Aside0.mk hG1
                    have r0 := hA1.a0
                    clear hA1 hS1 hG1
                    by_cases hlt1 : (a + 1) < (s.size : Int)
                    · obtain ⟨c1, hc1, hb1⟩ := suf_cons r0 hlt1
                      have HC1 := Aside0.mk (And.intro hc1 hb1)
                      clear hc1 hb1
                      go_wp2_with (go_at_call 35; refine (more_yes LS.out hlt1).mono ?_; rintro e w4 ⟨rfl, n4, hn4⟩)
                      have LS4 : Aside0 (Scn w4 g s (a + 1) p1.1 p1.2 v f5 f6 f7) := ⟨by rw [← hn4]; exact LS.out⟩
                      have LG4 : Aside0 (w.grownBy w4 (some g)) := ⟨by rw [← hn4]; exact grown_drewN LG.out _⟩
                      clear hn4
                      have h0 := (blk_cell LS4.out 0).trans rfl
                      have h1 := (blk_cell LS4.out 1).trans rfl
                      have p4 : (0 ≤ (a + 1)) = True := eq_true r0
                      have q4 : ((a + 1) < (s.size : Int)) = True := eq_true hlt1
                      have hx4 := bt_at s (a + 1)
                      cases hh : Lx.hexv c1 with
                      | none =>
                        have HI := Aside0.mk (hex_none hh)
                        have HH := Aside0.mk hh
                        clear hh
                        go_quiet ((go_at_call 50; exact Calls.quiet_of_same (hexIdx HC1.out.2 HI.out _)))
                        clear h0 h1 p4 q4 hx4
                        go_wp2_with fail
                        go_ret2
                        refine escP_of (res := .bad (c1 :: suf s ((a + 1) + 1)) p1) ⟨rfl, (a + 1), LA.out, LS4.out, grown_drewN LG4.out _⟩ (ESC.out.trans ?_)
                        rw [HC1.out.1]
                        simp [Lx.escX, HH.out]
                      | some d1 =>
                        have HI := Aside0.mk (hex_some hh)
                        have HH := Aside0.mk hh
                        have hd1 := hex_lt hh
                        clear hh
                        go_quiet ((go_at_call 50; exact Calls.quiet_of_same (hexIdx HC1.out.2 HI.out _)))
                        clear h0 h1 p4 q4 hx4
                        have hor := or_zero d1 hd1
                        go_wp2_with (go_at_call 46; refine (step_calls (LS4.out.drewN _) LA.out hlt1 c1 HC1.out.2).mono ?_; rintro e w5 ⟨rfl, hS5, hG5⟩)
                        clear hor
                        go_roundg 1
                        case measure => omega
                        case rel => exact .inr (.inl ⟨rfl, c1, d1, HC1.out.1, HH.out, rfl, rfl, LA.out.step hlt1 c1, hS5, (grown_drewN LG4.out _).trans hG5⟩)
                    · have hle1 : (s.size : Int) ≤ (a + 1) := by omega
                      clear hlt1
                      go_wp2_with (go_at_call 35; refine (more_no LS.out hle1).mono ?_; rintro e w4 ⟨rfl, n4, hn4⟩)
                      go_ret2
                      refine escP_of (res := .bad [] p1) ⟨rfl, (a + 1), LA.out, by rw [← hn4]; exact LS.out, by rw [← hn4]; exact grown_drewN LG.out _⟩ (ESC.out.trans ?_)
                      rw [suf_nil hle1]
                      rfl
                  · have LA := Aside0.mk hA1
                    have LS := Aside0.mk hS1
                    have LG := Aside0.mk hG1
                    have r0 := hA1.a0
                    have HC0 := Aside0.mk (And.intro hc1 hh1)
                    have hd0 := hex_lt hh1
                    clear hA1 hS1 hG1 hc1 hh1
                    generalize hp2 : Lx.adv c1 p1 = p2 at *
                    have HP2 := Aside0.mk hp2
                    clear hp2
                    by_cases hlt1 : (a + 1) + 1 < (s.size : Int)
                    · obtain ⟨c2, hc2, hb2⟩ := suf_cons r0 hlt1
                      have HC2 := Aside0.mk (And.intro hc2 hb2)
                      clear hc2 hb2
                      go_wp2_with (go_at_call 35; refine (more_yes LS.out hlt1).mono ?_; rintro e w4 ⟨rfl, n4, hn4⟩)
                      have LS4 : Aside0 (Scn w4 g s ((a + 1) + 1) p2.1 p2.2 v f5 f6 f7) := ⟨by rw [← hn4]; exact LS.out⟩
                      have LG4 : Aside0 (w.grownBy w4 (some g)) := ⟨by rw [← hn4]; exact grown_drewN LG.out _⟩
                      clear hn4
                      have h0 := (blk_cell LS4.out 0).trans rfl
                      have h1' := (blk_cell LS4.out 1).trans rfl
                      have p4 : (0 ≤ (a + 1) + 1) = True := eq_true r0
                      have q4 : ((a + 1) + 1 < (s.size : Int)) = True := eq_true hlt1
                      have hx4 := bt_at s ((a + 1) + 1)
                      cases hh : Lx.hexv c2 with
                      | none =>
                        have HI := Aside0.mk (hex_none hh)
                        have HH := Aside0.mk hh
                        clear hh
                        go_quiet ((go_at_call 50; exact Calls.quiet_of_same (hexIdx HC2.out.2 HI.out _)))
                        clear h0 h1' p4 q4 hx4
                        go_wp2_with fail
                        go_ret2
                        refine escP_of (res := .bad (c2 :: suf s ((a + 1) + 1 + 1)) p2) ⟨rfl, (a + 1) + 1, LA.out, LS4.out, grown_drewN LG4.out _⟩ (ESC.out.trans ?_)
                        rw [HC0.out.1, HC2.out.1]
                        simp [Lx.escX, HC0.out.2, HH.out, HP2.out]
                      | some d1 =>
                        have HI := Aside0.mk (hex_some hh)
                        have HH := Aside0.mk hh
                        have hd1 := hex_lt hh
                        clear hh
                        go_quiet ((go_at_call 50; exact Calls.quiet_of_same (hexIdx HC2.out.2 HI.out _)))
                        clear h0 h1' p4 q4 hx4
                        have hor := or_next h1 d1 hd0 hd1
                        go_wp2_with (go_at_call 46; refine (step_calls (LS4.out.drewN _) LA.out hlt1 c2 HC2.out.2).mono ?_; rintro e w5 ⟨rfl, hS5, hG5⟩)
                        clear hor
                        go_roundg 0
                        case measure => omega
                        case rel =>
                          refine .inr (.inr ⟨rfl, c1, c2, h1, d1, ?_, HC0.out.2, HH.out, rfl, rfl, ?_, ?_, (grown_drewN LG4.out _).trans hG5⟩)
                          · rw [HC0.out.1, HC2.out.1, show (a + 1) + 1 + 1 = (a + 1) + 2 by omega]
                          · rw [HP2.out, show (a + 1) + 2 = (a + 1) + 1 + 1 by omega]; exact LA.out.step hlt1 c2
                          · rw [HP2.out, show (a + 1) + 2 = (a + 1) + 1 + 1 by omega]; exact hS5
                    · have hle1 : (s.size : Int) ≤ (a + 1) + 1 := by omega
                      clear hlt1
                      go_wp2_with (go_at_call 35; refine (more_no LS.out hle1).mono ?_; rintro e w4 ⟨rfl, n4, hn4⟩)
                      go_ret2
                      refine escP_of (res := .bad [] p2) ⟨rfl, (a + 1) + 1, LA.out, by rw [← hn4]; exact LS.out, by rw [← hn4]; exact grown_drewN LG.out _⟩ (ESC.out.trans ?_)
                      rw [HC0.out.1, suf_nil hle1]
                      simp [Lx.escX, HC0.out.2, HP2.out]
                  · have hb1 := hex_lt hh1
                    have hb2 := hex_lt hh2
                    have LL := Aside0.mk (And.intro hc1 (And.intro hh1 (And.intro hh2 (And.intro hA1 (And.intro hS1 hG1)))))
                    clear hc1 hh1 hh2 hA1 hS1 hG1
                    go_wp2_with fail
                    go_ret2
                    refine escP_of (res := .ok (UInt8.ofNat (16 * h1 + h2)) (suf s ((a + 1) + 2)) (Lx.adv c2 (Lx.adv c1 p1))) ?_ (ESC.out.trans ?_)
                    · refine ⟨?_, (a + 1) + 2, rfl, LL.out.2.2.2.1, LL.out.2.2.2.2.1, LL.out.2.2.2.2.2, by omega⟩
                      have ev : ((h1 : Int) * 16 + (h2 : Int)) = ((UInt8.ofNat (16 * h1 + h2)).toNat : Int) := by
                        rw [UInt8.toNat_ofNat', Nat.mod_eq_of_lt (by omega)]
                        omega
                      rw [← ev]
                      rfl
                    · rw [LL.out.1]
                      simp [Lx.escX, LL.out.2.1, LL.out.2.2.1]
              · have n0 : (bt s a == 92) = false := beq_eq_false_iff_ne.mpr (by omega)
                have n1 : (bt s a == 39) = false := beq_eq_false_iff_ne.mpr (by omega)
                have n2 : (bt s a == 34) = false := beq_eq_false_iff_ne.mpr (by omega)
                have n3 : (bt s a == 110) = false := beq_eq_false_iff_ne.mpr (by omega)
                have n4 : (bt s a == 116) = false := beq_eq_false_iff_ne.mpr (by omega)
                have n5 : (bt s a == 120) = false := beq_eq_false_iff_ne.mpr (by omega)
                have ESC : Aside0 (Lx.esc (c :: suf s (a + 1)) (line, col) = .bad (c :: suf s (a + 1)) (line, col)) := ⟨by
                  have e := HC.out.2
                  have e0 : ¬ (c.toNat = 92 ∨ c.toNat = 39 ∨ c.toNat = 34) := by omega
                  simp only [Lx.esc]
                  rw [if_neg e0, if_neg (by omega), if_neg (by omega), if_neg (by omega)]⟩
                have AA := Aside0.mk (show True from trivial)
                go_wp2_with fail
                go_ret2
                exact escP_of (res := .bad (c :: suf s (a + 1)) (line, col)) ⟨rfl, a, HA.out, HS2.out, HG2.out⟩ ESC.out
  · rw [suf_nil (by omega)]
    have hle : (s.size : Int) ≤ a := by omega
    clear hlt
    go_enter Try.func55, Try.ntmps55
    go_wp2_with (go_at_call 35; refine (more_no HS.out hle).mono ?_; rintro e w1 ⟨rfl, n1, hn1⟩)
    go_ret2
    exact ⟨rfl, a, HA.out, by rw [← hn1]; exact HS.out, by rw [← hn1]; exact grown_drewN (grown_refl _ _) _⟩
end Go.Proofs.Ytdbkooliafkcgaa.Lw

set_option linter.unusedVariables false
set_option linter.unusedSimpArgs false
namespace Go.Proofs.Ytdbkooliafkcgaa.Lw
open Go.RowKit Go.Proofs.YtdbkooliafkcgaaW.PrintWords Go.Proofs.YtdbkooliafkcgaaW.PrintLast Go.Proofs.YtdbkooliafkcgaaW.PrintMore Go.Proofs.Ytdbkooliafkcgaa

theorem infoU8 : (Try.prog.info? 5).map (fun i => (i.zero, i.size, i.bytes)) = some (some (.int .u8 0), 1, 1) := by kernel_rfl

def litRes (q : UInt8) (cs : List UInt8) (p : Int × Int) : Except Lx.Flt (Lx.Tok × List UInt8 × (Int × Int)) :=
  match Lx.lit q (cs.length + 1) cs (Lx.adv q p) [] with
  | (none, p') => .error ⟨p', 2⟩
  | (some (t, rest), p') => if t = [] then .error ⟨p, 2⟩ else if t.length > 16 then .error ⟨p, 6⟩ else .ok (⟨2, t, p⟩, rest, p')

def codes (l : List UInt8) : List Int := l.map fun c => (c.toNat : Int)
def LitR (w : World) (g : Nat) (s : ByteArray) (line col : Int) (v : Value) (f5 f6 f7 : Int) (bx : Nat) (q : UInt8) (R : Option (List UInt8 × List UInt8) × (Int × Int)) (k : Nat) (so : Value) (wr : World) : Prop :=
  ∃ (a' l' c' : Int) (out : List UInt8) (m : Nat), Scn wr g s a' l' c' v f5 f6 f7 ∧ BoxAt w wr bx 2 line col ⟨#[]⟩ ∧ w.grownBy wr (some g) ∧ At s a' l' c' ∧
    wr.ownsRow w.heap.size 5 1 so (nums .u8 (codes out)).length (nums .u8 (codes out)) ∧ (out.length : Int) ≤ a' ∧ (s.size : Int) - a' < k ∧ Lx.lit q m (suf s a') (l', c') out = R ∧ (s.size : Int) - a' < m

theorem codes_len (l : List UInt8) : (nums .u8 (codes l)).length = l.length := by simp [nums, codes]
theorem codes_snoc (l : List UInt8) (c : UInt8) : nums .u8 (codes (l ++ [c])) = nums .u8 (codes l) ++ [.int .u8 c.toNat] := by simp [nums, codes]
theorem codes_str (l : List UInt8) : strOfNums (codes l) = ⟨l.toArray⟩ := Lib.Lz.strOfNums_map l
/-- New blocks written. -/
theorem grown_new {w W w1 : World} {g : Nat} {row : Option Nat} (h : w.grownBy W (some g)) (hg : W.grownBy w1 row) (hr : ∀ k, row = some k → w.heap.size ≤ k) : w.grownBy w1 (some g) :=
  ⟨hg.os.trans h.os, hg.tape.trans h.tape, hg.output.trans h.output, Nat.le_trans h.size hg.size, fun i hi hne => (hg.block i (Nat.lt_of_lt_of_le hi h.size) (fun e => by have := hr i e.symm; omega)).trans (h.block i hi hne)⟩
theorem BoxAt.other {w wx w3 : World} {bx : Nat} {k l c : Int} {t : ByteArray} (h : BoxAt w wx bx k l c t) {row : Option Nat} (hg : wx.grownBy w3 row) (hne : some bx ≠ row) : BoxAt w w3 bx k l c t := ⟨blk_grown h.1 hg hne, h.2⟩
theorem lit_nil (q : UInt8) (m : Nat) (p : Int × Int) (out : List UInt8) : Lx.lit q m [] p out = (none, p) := by cases m <;> rfl

set_option maxHeartbeats 2000000 in
set_option maxRecDepth 100000 in
theorem literal_calls {b g : Nat} {s : ByteArray} {a line col : Int} {v : Value} {xs : List Value} {n : Nat} {f5 f6 f7 : Int} {w : World} (hb : Scs b w g s a line col v xs n f5 f6 f7) (hA : At s a line col) (hn : n ≤ 1000000)
    (hlt : a < (s.size : Int)) (q : UInt8) (hq : suf s a = q :: suf s (a + 1)) (hbt : bt s a = q.toNat) (x : Int) (hx : x = q.toNat) :
    Calls Try.prog 49 #[.pointer (some ⟨g, 0, none⟩), .int .u8 x] w (TokP b w g s xs n f5 f6 f7 (litRes q (suf s (a + 1)) (line, col))) := by
  have HB := Aside0.mk hb
  have HA := Aside0.mk hA
  have hS : Scn w g s a line col v f5 f6 f7 := hb.scn
  have HS := Aside0.mk hS
  have hglt := hS.lt
  have hge := hb.ge
  have HQ := Aside0.mk (And.intro hq (And.intro hbt hx))
  have q0 := hA.a0
  have q1 := hA.a1
  have qs := hA.big
  have ng : some g ≠ v.ownBlock := own_ne (g := g) (t := 92) hb.own hS (by decide)
  clear hb hA hS hq hbt hx
  go_enter Try.func49, Try.ntmps49
  go_wp2_with (go_at_call 37; refine (here_scn HS.out 2).mono ?_; rintro e w1 ⟨rfl, hg1, hS1⟩)
  have HX1 := Aside0.mk (show BoxAt w (w1.alloc (.cells #[.int .i64 2, .string ⟨#[]⟩, .int .i64 line, .int .i64 col] 94)) w1.heap.size 2 line col ⟨#[]⟩ from ⟨blk_new _ _, hg1.size⟩)
  have HS1 := Aside0.mk (hS1.alloc (.cells #[.int .i64 2, .string ⟨#[]⟩, .int .i64 line, .int .i64 col] 94))
  have HG1 := Aside0.mk (grown_some (grown_alloc hg1 (.cells #[.int .i64 2, .string ⟨#[]⟩, .int .i64 line, .int .i64 col] 94)) (some g))
  clear hg1 hS1
  generalize hW2 : w1.alloc (.cells #[.int .i64 2, .string ⟨#[]⟩, .int .i64 line, .int .i64 col] 94) = w2 at *
  clear hW2
  generalize hbx : w1.heap.size = bx at *
  clear hbx
  refine (step_calls HS1.out HA.out hlt q HQ.out.2.1).mono ?_
  rintro e w3 ⟨rfl, hS3, hG3⟩
  have hbge := HX1.out.2
  have HX3 := Aside0.mk (HX1.out.far hG3 hglt)
  have HS3 := Aside0.mk hS3
  have HG3 := Aside0.mk (HG1.out.trans hG3)
  have HA3 := Aside0.mk (HA.out.step hlt q)
  clear hS3 hG3 HX1 HS1 HG1
  generalize hp1 : Lx.adv q (line, col) = p1 at *
  have RES : Aside0 (litRes q (suf s (a + 1)) (line, col) = match Lx.lit q ((suf s (a + 1)).length + 1) (suf s (a + 1)) p1 [] with
      | (none, p') => .error ⟨p', 2⟩
      | (some (t, rest), p') => if t = [] then .error ⟨(line, col), 2⟩ else if t.length > 16 then .error ⟨(line, col), 6⟩ else .ok (⟨2, t, (line, col)⟩, rest, p')) := ⟨by unfold litRes; rw [hp1]⟩
  clear hp1
  go_wp2_with fail
  go_loopg [6] (s.size + 1) (fun k so wr => LitR w g s line col v f5 f6 f7 bx q (Lx.lit q ((suf s (a + 1)).length + 1) (suf s (a + 1)) p1 []) k so wr)
  case atStart =>
    refine ⟨a + 1, p1.1, p1.2, [], _, HS3.out, HX3.out, HG3.out, HA3.out, own_nil _ _ _ _, by simp; omega, by omega, rfl, ?_⟩
    rw [suf_length]; omega
  case round =>
    obtain ⟨a', l', c', out, m, hS, hX, hG, hT, hO, ho, hk, hlit, hm⟩ := hrel
    have LS := Aside0.mk hS
    have LX := Aside0.mk hX
    have LG := Aside0.mk hG
    have LT := Aside0.mk hT
    have LO := Aside0.mk hO
    have LL := Aside0.mk hlit
    have r0 := hT.a0
    have r1 := hT.a1
    clear hS hX hG hT hO hlit
    have bad : ∀ (p' : Int × Int) (W w5 : World) (k5 l5 c5 : Int) , Lx.lit q m (suf s a') (l', c') out = (none, p') → w.grownBy W (some g) → Scn w5 g s k5 l5 c5 v p'.1 p'.2 2 → W.grownBy w5 (some g) → TokP b w g s xs n f5 f6 f7 (litRes q (suf s (a + 1)) (line, col)) (.returned (.bool false)) w5 := by
      intro p' W w5 k5 l5 c5 he hGW hS5 hG5
      rw [RES.out, ← LL.out, he]
      exact ⟨rfl, _, _, _, _, hS5, below_grown (hGW.trans hG5) hge hglt⟩
    have BAD := Aside0.mk bad
    clear bad
    by_cases hlt' : a' < (s.size : Int)
    · obtain ⟨c, hc, hcb⟩ := suf_cons r0 hlt'
      have HC := Aside0.mk (And.intro hc hcb)
      clear hc hcb
      obtain ⟨m, rfl⟩ : ∃ m', m = m' + 1 := ⟨m - 1, by omega⟩
      go_wp2_with (go_at_call 35; refine (more_yes LS.out hlt').mono ?_; rintro e w4 ⟨rfl, n4, hn4⟩)
      have h0 := (blk_cell (show Scn w4 g s a' l' c' v f5 f6 f7 by rw [← hn4]; exact LS.out) 0).trans rfl
      have h1 := (blk_cell (show Scn w4 g s a' l' c' v f5 f6 f7 by rw [← hn4]; exact LS.out) 1).trans rfl
      have HN4 := Aside0.mk hn4
      clear hn4
      have p4 : (0 ≤ a') = True := eq_true r0
      have q4 : (a' < (s.size : Int)) = True := eq_true hlt'
      have hx4 := bt_at s a'
      go_quiet (fail)
      clear h0 h1 p4 q4 hx4
      generalize hW5 : w4.drewN nq = w5
      have MS : Aside0 (Scn w5 g s a' l' c' v f5 f6 f7) := ⟨by rw [← hW5, ← HN4.out]; exact LS.out⟩
      have MX : Aside0 (BoxAt w w5 bx 2 line col ⟨#[]⟩) := ⟨by rw [← hW5, ← HN4.out]; exact LX.out⟩
      have MG : Aside0 (w.grownBy w5 (some g)) := ⟨by rw [← hW5, ← HN4.out]; exact grown_drewN (grown_drewN LG.out _) _⟩
      have MO_ : Aside0 (w5.ownsRow w.heap.size 5 1 u6 (nums .u8 (codes out)).length (nums .u8 (codes out))) := ⟨by rw [← hW5, ← HN4.out]; exact LO.out⟩
      clear hW5 HN4 LS LX LG LO
      by_cases hcq : c = q
      · have bq : (bt s a' == x) = true := beq_iff_eq.mpr (by rw [HC.out.2, HQ.out.2.2, hcq])
        have hl : Lx.lit q (m + 1) (suf s a') (l', c') out = (some (out, suf s (a' + 1)), Lx.adv c (l', c')) := by
          rw [HC.out.1]; simp [Lx.lit, hcq]
        have HL := Aside0.mk hl
        clear hl hcq
        have nu : u6.ownBlock ≠ some g := Ne.symm (own_ne (g := g) (t := 92) MO_.out MS.out (by decide))
        have hsz : (⟨out.toArray⟩ : ByteArray).size = out.length := by show out.toArray.size = _; simp
        have htl : (⟨out.toArray⟩ : ByteArray).data.toList = out := by simp
        have HZ := Aside0.mk (And.intro hsz htl)
        generalize htx : (⟨out.toArray⟩ : ByteArray) = tx at *
        have HTX := Aside0.mk htx
        clear htx hsz htl
        go_wp2_with (first | (go_at_call 46; refine (step_calls MS.out LT.out hlt' c HC.out.2).mono ?_; rintro e w6 ⟨rfl, hS6, hG6⟩; have HS6 := Aside0.mk hS6; have HG6 := Aside0.mk hG6; clear hS6 hG6; have hX6 := (MX.out.far HG6.out hglt).1; have y0 := (blk_cell hX6 0).trans rfl; have y1 := (blk_cell hX6 1).trans rfl; have y2 := (blk_cell hX6 2).trans rfl; have y3 := (blk_cell hX6 3).trans rfl; clear hX6; have hcv : (convert 105 9 u6).run Try.prog w6 = .ok (.string tx) w6 := (own_string Try.underlying105 Try.underlying5 Try.underlying9 (MO_.out.kept HG6.out (Or.inr nu))).trans (by rw [codes_str, HTX.out])))
        clear hcv y0 y1 y2 y3
        by_cases h0 : out = []
        · refine (ended_empty HS6.out _ _ _ _ _ (by rw [HZ.out.2]; exact h0)).mono ?_
          rintro e w7 ⟨rfl, hS7, hG7⟩
          go_wp2_with fail
          go_ret
          rw [RES.out, ← LL.out, HL.out]
          simp only [h0, if_true]
          exact ⟨rfl, _, _, _, _, hS7, below_grown (MG.out.trans (HG6.out.trans hG7)) hge hglt⟩
        · have hpos : 1 ≤ out.length := by cases out with
            | nil => exact absurd rfl h0
            | cons => simp
          by_cases h16 : 16 < out.length
          · refine (ended_long HS6.out _ _ _ _ _ (by rw [HZ.out.1]; exact h16)).mono ?_
            rintro e w7 ⟨rfl, hS7, hG7⟩
            go_wp2_with fail
            go_ret
            rw [RES.out, ← LL.out, HL.out]
            simp only [h0, if_false]
            rw [if_pos h16]
            exact ⟨rfl, _, _, _, _, hS7, below_grown (MG.out.trans (HG6.out.trans hG7)) hge hglt⟩
          · have hG06 := MG.out.trans HG6.out
            refine (ended_ok ⟨HS6.out, HB.out.own.kept hG06 (Or.inr (Ne.symm ng)), hge⟩ _ _ _ _ _ (by rw [HZ.out.1]; exact hpos) (by rw [HZ.out.1]; omega) hn).mono ?_
            rintro e w7 ⟨rfl, v', hS7, hB7⟩
            have EE := Aside0.mk (And.intro hS7 hB7)
            have GG := Aside0.mk hG06
            clear hS7 hB7 hG06
            go_wp2_with fail
            go_ret
            rw [RES.out, ← LL.out, HL.out]
            simp only [h0, if_false]
            rw [if_neg h16]
            exact ⟨rfl, tx, v', a' + 1, HZ.out.2, rfl, LT.out.step hlt' c, EE.out.1, (below_grown GG.out hge hglt).trans EE.out.2⟩
      · have bq : (bt s a' == x) = false := beq_eq_false_iff_ne.mpr (by rw [HC.out.2, HQ.out.2.2]; intro h; exact hcq (UInt8.toNat_inj.mp (by omega)))
        have HCQ := Aside0.mk hcq
        clear hcq
        by_cases h92 : bt s a' = 92
        · have b92 : (bt s a' == 92) = true := beq_iff_eq.mpr h92
          have e92 : c.toNat = 92 := by have := HC.out.2; omega
          have H92 := Aside0.mk e92
          clear h92 e92
          go_wp2_with (first | (go_at_call 46; refine (step_calls MS.out LT.out hlt' c HC.out.2).mono ?_; rintro e w6 ⟨rfl, hS6, hG6⟩))
          have HG6 := Aside0.mk (MG.out.trans hG6)
          have G6 := Aside0.mk hG6
          clear hG6
          refine (escape_calls hS6 (LT.out.step hlt' c)).mono ?_
          clear hS6
          intro e w7 hE
          cases hes : Lx.esc (suf s (a' + 1)) (Lx.adv c (l', c')) with
          | bad r7 p7 =>
            rw [show ((Lx.adv c (l', c')).1, (Lx.adv c (l', c')).2) = Lx.adv c (l', c') from rfl, hes] at hE
            obtain ⟨rfl, a7, hA7, hS7, hG7⟩ := hE
            have HES := Aside0.mk hes
            have GG := Aside0.mk (HG6.out.trans hG7)
            clear hes hG7
            go_wp2_with fail
            refine (here_scn hS7 4).mono ?_
            rintro e w8 ⟨rfl, hg8, hS8⟩
            have NG := Aside0.mk (GG.out.trans (grown_some hg8 _))
            clear hg8 hS7
            go_wp2_with fail
            refine (fail_calls hS8 _ _ _ _ _).mono ?_
            rintro e w9 ⟨rfl, hS9, hG9⟩
            go_wp2_with fail
            go_ret
            exact BAD.out p7 _ _ _ _ _ (by rw [HC.out.1]; simp [Lx.lit, HCQ.out, H92.out, HES.out]) NG.out hS9 hG9
          | ok b7 r7 p7 =>
            rw [show ((Lx.adv c (l', c')).1, (Lx.adv c (l', c')).2) = Lx.adv c (l', c') from rfl, hes] at hE
            obtain ⟨rfl, a7, hr7, hA7, hS7, hG7, hlt7⟩ := hE
            have HES := Aside0.mk (And.intro hes hr7)
            have GG := Aside0.mk (HG6.out.trans hG7)
            have KS := Aside0.mk hS7
            have KA := Aside0.mk hA7
            have s7 := hA7.a1
            have HX7 := Aside0.mk ((MX.out.far G6.out hglt).far hG7 hglt)
            have nu : u6.ownBlock ≠ some g := Ne.symm (own_ne (g := g) (t := 92) MO_.out MS.out (by decide))
            have HO7 := Aside0.mk ((MO_.out.kept G6.out (Or.inr nu)).kept hG7 (Or.inr nu))
            have hB7 : Below w.heap.size w7 w7 := Below.refl _ _
            have hw7 : w.heap.size ≤ w7.heap.size := GG.out.size
            clear hes hr7 hG7 hS7 hA7
            go_wp2_with (first | (at_builtin; refine print_append (w0 := w7) w.heap.size rfl (.tmp 63) (.tmp 65) 105 5 (.int .u8 0) 1 rfl Try.underlying105 infoU8 rfl (by decide) u6 (nums .u8 (codes out)) (.int .u8 b7.toNat) rfl rfl rfl HO7.out hB7 hw7 (by rw [codes_len]; omega) ?_; intro v1 w8 hO8 hB8 hG8 hat8))
            have GX := Aside0.mk (grown_new GG.out hG8 (fun k hk => own_base HO7.out k hk))
            have RX := Aside0.mk (show w8.ownsRow w.heap.size 5 1 v1 (nums .u8 (codes (out ++ [b7]))).length (nums .u8 (codes (out ++ [b7]))) by rw [codes_snoc]; exact hO8)
            have SX := Aside0.mk (KS.out.grown hG8 (Ne.symm nu))
            have BX := Aside0.mk (HX7.out.other hG8 (by
              intro e
              rcases own_typed HO7.out bx e.symm with ⟨cells, hcells⟩
              rw [HX7.out.1] at hcells
              injection hcells with hcells
              injection hcells with _ hcells
              exact absurd hcells (by decide)))
            clear hO8 hB8 hG8 hat8
            go_wp2_with fail
            go_roundg (((s.size : Int) - a7).toNat + 1)
            case measure => omega
            case rel =>
              refine ⟨a7, p7.1, p7.2, out ++ [b7], m, SX.out, BX.out, GX.out, KA.out, RX.out, by simp; omega, by omega, ?_, by omega⟩
              rw [← LL.out, HC.out.1]
              simp [Lx.lit, HCQ.out, H92.out, HES.out.1, HES.out.2]
        · have b92 : (bt s a' == 92) = false := beq_eq_false_iff_ne.mpr h92
          have e92 : ¬ c.toNat = 92 := by have := HC.out.2; omega
          have H92 := Aside0.mk e92
          clear h92 e92
          by_cases hbad : bt s a' < 32 ∨ 126 < bt s a'
          · have HBD : Aside0 (c.toNat < 32 ∨ 126 < c.toNat) := ⟨by have := HC.out.2; omega⟩
            have badt : ∀ (w9 : World) (k5 l5 c5 : Int), Scn w9 g s k5 l5 c5 v l' c' 2 → w.grownBy w9 (some g) → TokP b w g s xs n f5 f6 f7 (litRes q (suf s (a + 1)) (line, col)) (.returned (.bool false)) w9 := by
              intro w9 k5 l5 c5 h1 h2
              exact BAD.out (l', c') w w9 _ _ _ (by rw [HC.out.1]; simp [Lx.lit, HCQ.out, H92.out, HBD.out]) (grown_refl _ _) h1 h2
            have BT := Aside0.mk badt
            clear badt
            by_cases h32 : bt s a' < 32
            · clear hbad
              go_wp2_with (first | (go_at_call 37; refine (here_scn MS.out 4).mono ?_; rintro e w6 ⟨rfl, hg6, hS6⟩))
              have NG := Aside0.mk (MG.out.trans (grown_some hg6 _))
              clear hg6
              refine (fail_calls hS6 _ _ _ _ _).mono ?_
              rintro e w7 ⟨rfl, hS7, hG7⟩
              have NG7 := Aside0.mk (NG.out.trans hG7)
              clear hG7
              go_wp2_with fail
              go_ret
              exact BT.out _ _ _ _ hS7 NG7.out
            · have h126 : 126 < bt s a' := by omega
              have b32 : decide (bt s a' < 32) = false := decide_eq_false h32
              clear hbad
              go_wp2_with (first | (go_at_call 37; refine (here_scn MS.out 4).mono ?_; rintro e w6 ⟨rfl, hg6, hS6⟩))
              have NG := Aside0.mk (MG.out.trans (grown_some hg6 _))
              clear hg6
              refine (fail_calls hS6 _ _ _ _ _).mono ?_
              rintro e w7 ⟨rfl, hS7, hG7⟩
              have NG7 := Aside0.mk (NG.out.trans hG7)
              clear hG7
              go_wp2_with fail
              go_ret
              exact BT.out _ _ _ _ hS7 NG7.out
          · have h32 : decide (bt s a' < 32) = false := decide_eq_false (by omega)
            have h126 : decide (126 < bt s a') = false := decide_eq_false (by omega)
            have HBD : Aside0 (¬ (c.toNat < 32 ∨ 126 < c.toNat)) := ⟨by have := HC.out.2; omega⟩
            clear hbad
            have nu : u6.ownBlock ≠ some g := Ne.symm (own_ne (g := g) (t := 92) MO_.out MS.out (by decide))
            have hB7 : Below w.heap.size w5 w5 := Below.refl _ _
            have hw7 : w.heap.size ≤ w5.heap.size := MG.out.size
            go_wp2_with (first | (at_builtin; refine print_append (w0 := w5) w.heap.size rfl (.tmp 30) (.tmp 32) 105 5 (.int .u8 0) 1 rfl Try.underlying105 infoU8 rfl (by decide) u6 (nums .u8 (codes out)) (.int .u8 (bt s a')) rfl rfl rfl MO_.out hB7 hw7 (by rw [codes_len]; omega) ?_; intro v1 w8 hO8 hB8 hG8 hat8; have SX := Aside0.mk (MS.out.grown hG8 (Ne.symm nu)); have GX := Aside0.mk (grown_new MG.out hG8 (fun k hk => own_base MO_.out k hk)); have G8 := Aside0.mk hG8; have O8 := Aside0.mk hO8; clear hO8 hB8 hG8 hat8) | (go_at_call 46; refine (step_calls SX.out LT.out hlt' c HC.out.2).mono ?_; rintro e w9 ⟨rfl, hS9, hG9⟩))
            have RX : w8.ownsRow w.heap.size 5 1 v1 (nums .u8 (codes (out ++ [c]))).length (nums .u8 (codes (out ++ [c]))) := by rw [codes_snoc, ← HC.out.2]; exact O8.out
            have BX := MX.out.other G8.out (by
              intro e
              rcases own_typed MO_.out bx e.symm with ⟨cells, hcells⟩
              rw [MX.out.1] at hcells
              injection hcells with hcells
              injection hcells with _ hcells
              exact absurd hcells (by decide))
            have nv : v1.ownBlock ≠ some g := Ne.symm (own_ne (g := g) (t := 92) RX SX.out (by decide))
            go_roundg (((s.size : Int) - (a' + 1)).toNat + 1)
            case measure => omega
            case rel =>
              refine ⟨a' + 1, _, _, out ++ [c], m, hS9, BX.far hG9 hglt, GX.out.trans hG9, LT.out.step hlt' c, RX.kept hG9 (Or.inr nv), by simp; omega, by omega, ?_, by omega⟩
              rw [← LL.out, HC.out.1]
              simp [Lx.lit, HCQ.out, H92.out, HBD.out]
    · have hle : (s.size : Int) ≤ a' := by omega
      clear hlt'
      go_wp2_with (first | (go_at_call 35; refine (more_no LS.out hle).mono ?_; rintro e w4 ⟨rfl, n4, hn4⟩))
      have MS : Aside0 (Scn w4 g s a' l' c' v f5 f6 f7) := ⟨by rw [← hn4]; exact LS.out⟩
      have MG : Aside0 (w.grownBy w4 (some g)) := ⟨by rw [← hn4]; exact grown_drewN LG.out _⟩
      clear hn4
      refine (here_scn MS.out 4).mono ?_
      rintro e w5 ⟨rfl, hg5, hS5⟩
      have NG := Aside0.mk (MG.out.trans (grown_some hg5 _))
      clear hg5
      go_wp2_with fail
      refine (fail_calls hS5 _ _ _ _ _).mono ?_
      rintro e w6 ⟨rfl, hS6, hG6⟩
      go_wp2_with fail
      go_ret
      exact BAD.out (l', c') _ _ _ _ _ (by rw [suf_nil hle]; exact lit_nil _ _ _ _) NG.out hS6 hG6
end Go.Proofs.Ytdbkooliafkcgaa.Lw

set_option linter.unusedVariables false
set_option linter.unusedSimpArgs false
namespace Go.Proofs.Ytdbkooliafkcgaa.Lw
open Go.RowKit Go.Proofs.YtdbkooliafkcgaaW.PrintWords Go.Proofs.YtdbkooliafkcgaaW.PrintLast Go.Proofs.YtdbkooliafkcgaaW.PrintMore Go.Proofs.Ytdbkooliafkcgaa

def signsL : List UInt8 := [58, 124, 59, 40, 41, 91, 93, 123, 125, 42, 43, 63, 37]
theorem sign_eq (c : UInt8) : Lib.indexByte signsL c = (if Lx.isSign c then ((signsL.findIdx (· == c) : Nat) : Int) else -1) := by
  revert c
  refine u8_all ?_
  decide +kernel
theorem signIdx {c : UInt8} {x r : Int} (hx : x = c.toNat) (hr : Lib.indexByte signsL c = r) (w : World) :
    Calls Try.prog 50 #[.string ⟨#[58, 124, 59, 40, 41, 91, 93, 123, 125, 42, 43, 63, 37]⟩, .int .u8 x] w fun e w' => e = .returned (.int .i64 r) ∧ w = w' := by
  refine (Try.strings_IndexByte _ _ w).mono fun e w' h => ?_
  obtain ⟨h1, h2⟩ := h
  refine ⟨h1.trans ?_, h2.symm⟩
  rw [show x.toNat.toUInt8 = c by rw [hx]; simp]
  rw [← hr]
  rfl
theorem TokP.from {b : Nat} {w W : World} {g : Nat} {s : ByteArray} {xs : List Value} {n : Nat} {f5 f6 f7 : Int} {res : Except Lx.Flt (Lx.Tok × List UInt8 × (Int × Int))} {x : Ending} {w' : World} (h : TokP b W g s xs n f5 f6 f7 res x w') (hb : Below b w W) : TokP b w g s xs n f5 f6 f7 res x w' := by
  unfold TokP at h ⊢
  cases res with
  | error f => obtain ⟨h1, a', l', c', v', h2, h3⟩ := h; exact ⟨h1, a', l', c', v', h2, hb.trans h3⟩
  | ok r => obtain ⟨h1, tb, v', a', h2, h3, h4, h5, h6⟩ := h; exact ⟨h1, tb, v', a', h2, h3, h4, h5, hb.trans h6⟩
theorem tokP_ret {b : Nat} {w : World} {g : Nat} {s : ByteArray} {xs : List Value} {n : Nat} {f5 f6 f7 : Int} {res : Except Lx.Flt (Lx.Tok × List UInt8 × (Int × Int))} {x : Ending} {w' : World} (h : TokP b w g s xs n f5 f6 f7 res x w') : ∃ y : Bool, x = .returned (.bool y) := by
  unfold TokP at h
  cases res with
  | error f => exact ⟨false, h.1⟩
  | ok r => exact ⟨true, h.1⟩
theorem name_token {c : UInt8} {cs : List UInt8} {p : Int × Int} (h : Lx.letter c = true) : Lx.token c cs p = nameRes (c :: cs) p := by
  unfold Lx.token nameRes
  rw [if_pos h]
theorem lit_token {c : UInt8} {cs : List UInt8} {p : Int × Int} (h : Lx.letter c = false) (h2 : c.toNat = 39 ∨ c.toNat = 34) : Lx.token c cs p = litRes c cs p := by
  unfold Lx.token litRes
  rw [if_neg (by simp [h]), if_pos h2]
  rcases Lx.lit c (cs.length + 1) cs (Lx.adv c p) [] with ⟨_ | ⟨t, r⟩, p'⟩ <;> rfl

set_option maxHeartbeats 2000000 in
set_option maxRecDepth 100000 in
theorem token_calls {b g : Nat} {s : ByteArray} {a line col : Int} {v : Value} {xs : List Value} {n : Nat} {f5 f6 f7 : Int} {w : World} (hb : Scs b w g s a line col v xs n f5 f6 f7) (hA : At s a line col) (hn : n ≤ 1000000)
    (hlt : a < (s.size : Int)) (c : UInt8) (hc : suf s a = c :: suf s (a + 1)) (hbt : bt s a = c.toNat) :
    Calls Try.prog 36 #[.pointer (some ⟨g, 0, none⟩)] w (TokP b w g s xs n f5 f6 f7 (Lx.token c (suf s (a + 1)) (line, col))) := by
  have HB := Aside0.mk hb
  have HA := Aside0.mk hA
  have hS : Scn w g s a line col v f5 f6 f7 := hb.scn
  have HS := Aside0.mk hS
  have hglt := hS.lt
  have hge := hb.ge
  have HC := Aside0.mk (And.intro hc hbt)
  have q0 := hA.a0
  have q1 := hA.a1
  have qs := hA.big
  have ng : some g ≠ v.ownBlock := own_ne (g := g) (t := 92) hb.own hS (by decide)
  clear hb hA hS hc hbt
  go_enter Try.func36, Try.ntmps36
  go_wp2_with (first | (go_at_call 37; refine (here_scn HS.out 3).mono ?_; rintro e w1 ⟨rfl, hg1, hS1⟩; have x0 := fun o => (blk_cell (hS1.alloc o) 0).trans rfl; have x1 := fun o => (blk_cell (hS1.alloc o) 1).trans rfl; have GG := Aside0.mk hg1; have SS := Aside0.mk hS1; clear hg1 hS1))
  have p4 : (0 ≤ a) = True := eq_true q0
  have q4 : (a < (s.size : Int)) = True := eq_true hlt
  have hx4 := bt_at s a
  go_quiet (fail)
  clear x0 x1 p4 q4 hx4
  have HX1 := Aside0.mk (show BoxAt w ((w1.alloc (.cells #[.int .i64 3, .string ⟨#[]⟩, .int .i64 line, .int .i64 col] 94)).drewN nq) w1.heap.size 3 line col ⟨#[]⟩ from ⟨blk_new _ _, GG.out.size⟩)
  have HS1 := Aside0.mk ((SS.out.alloc (.cells #[.int .i64 3, .string ⟨#[]⟩, .int .i64 line, .int .i64 col] 94)).drewN nq)
  have HG1 := Aside0.mk (grown_drewN (grown_alloc GG.out (.cells #[.int .i64 3, .string ⟨#[]⟩, .int .i64 line, .int .i64 col] 94)) nq)
  clear GG SS
  generalize (w1.alloc (.cells #[.int .i64 3, .string ⟨#[]⟩, .int .i64 line, .int .i64 col] 94)).drewN nq = w2 at *
  generalize w1.heap.size = bx at *
  have HO1 := Aside0.mk (pw_own_below HB.out.own (below_of_grown HG1.out))
  have HB1 := Aside0.mk (Below.mono (below_of_grown HG1.out) (show b ≤ w.heap.size by omega))
  have hbge := HX1.out.2
  cases hl : Lx.letter c with
  | true =>
    have hcl := letter_calls c (bt s a) HC.out.2
    rw [hl] at hcl
    have HCL := Aside0.mk hcl
    have HT := Aside0.mk (name_token (cs := suf s (a + 1)) (p := (line, col)) hl)
    clear hl hcl
    go_wp2_with (first | (go_at_call 47; refine (HCL.out _).mono ?_; rintro e w3 ⟨rfl, rfl⟩))
    refine (name_calls ⟨HS1.out, HO1.out, hge⟩ HA.out hn).mono ?_
    intro e w3 hT
    rw [HC.out.1, ← HT.out] at hT
    obtain ⟨y, rfl⟩ := tokP_ret hT
    have KT := Aside0.mk hT
    clear hT
    go_wp2_with fail
    go_ret
    exact KT.out.from HB1.out
  | false =>
    have hcl := letter_calls c (bt s a) HC.out.2
    rw [hl] at hcl
    have HCL := Aside0.mk hcl
    have HL := Aside0.mk hl
    clear hl hcl
    by_cases hq : bt s a = 39 ∨ bt s a = 34
    · have HT := Aside0.mk (lit_token (cs := suf s (a + 1)) (p := (line, col)) HL.out (by have := HC.out.2; omega))
      have hlc := literal_calls ⟨HS1.out, HO1.out, hge⟩ HA.out hn hlt c HC.out.1 HC.out.2 (bt s a) HC.out.2
      have HLC := Aside0.mk hlc
      clear hlc
      by_cases h39 : bt s a = 39
      · have b39 : (bt s a == 39) = true := beq_iff_eq.mpr h39
        clear hq h39
        go_wp2_with (first | (go_at_call 47; refine (HCL.out _).mono ?_; rintro e w3 ⟨rfl, rfl⟩))
        refine HLC.out.mono ?_
        intro e w3 hT
        rw [← HT.out] at hT
        obtain ⟨y, rfl⟩ := tokP_ret hT
        have KT := Aside0.mk hT
        clear hT
        go_wp2_with fail
        go_ret
        exact KT.out.from HB1.out
      · have b39 : (bt s a == 39) = false := beq_eq_false_iff_ne.mpr h39
        have b34 : (bt s a == 34) = true := beq_iff_eq.mpr (hq.resolve_left h39)
        clear hq h39
        go_wp2_with (first | (go_at_call 47; refine (HCL.out _).mono ?_; rintro e w3 ⟨rfl, rfl⟩))
        refine HLC.out.mono ?_
        intro e w3 hT
        rw [← HT.out] at hT
        obtain ⟨y, rfl⟩ := tokP_ret hT
        have KT := Aside0.mk hT
        clear hT
        go_wp2_with fail
        go_ret
        exact KT.out.from HB1.out
    · have b39 : (bt s a == 39) = false := beq_eq_false_iff_ne.mpr (by omega)
      have b34 : (bt s a == 34) = false := beq_eq_false_iff_ne.mpr (by omega)
      have HQ : Aside0 (¬ (c.toNat = 39 ∨ c.toNat = 34)) := ⟨by have := HC.out.2; omega⟩
      clear hq
      cases hsg : Lx.isSign c with
      | false =>
        have hsi := signIdx (x := bt s a) (r := -1) HC.out.2 (by rw [sign_eq, hsg]; rfl)
        have HSI := Aside0.mk hsi
        have HT : Aside0 (Lx.token c (suf s (a + 1)) (line, col) = .error ⟨(line, col), 2⟩) := ⟨by
          unfold Lx.token; rw [if_neg (by rw [HL.out]; decide), if_neg HQ.out, if_neg (by rw [hsg]; decide)]⟩
        clear hsg hsi
        have hX6 := HX1.out.1
        have y0 := (blk_cell hX6 0).trans rfl
        have y1 := (blk_cell hX6 1).trans rfl
        have y2 := (blk_cell hX6 2).trans rfl
        have y3 := (blk_cell hX6 3).trans rfl
        clear hX6
        go_wp2_with (first | (go_at_call 47; refine (HCL.out _).mono ?_; rintro e w3 ⟨rfl, rfl⟩) | (go_at_call 50; refine (HSI.out _).mono ?_; rintro e w3 ⟨rfl, rfl⟩))
        refine (fail_calls HS1.out _ _ _ _ _).mono ?_
        rintro e w3 ⟨rfl, hS3, hG3⟩
        have NG := Aside0.mk ((grown_some HG1.out (some g)).trans hG3)
        clear hG3
        go_wp2_with fail
        go_ret
        rw [HT.out]
        exact ⟨rfl, _, _, _, _, hS3, below_grown NG.out hge hglt⟩
      | true =>
        have hsi := signIdx (x := bt s a) (r := ((signsL.findIdx (· == c) : Nat) : Int)) HC.out.2 (by rw [sign_eq, hsg]; rfl)
        have HSI := Aside0.mk hsi
        have HT : Aside0 (Lx.token c (suf s (a + 1)) (line, col) = .ok (⟨3, [c], (line, col)⟩, suf s (a + 1), Lx.adv c (line, col))) := ⟨by
          unfold Lx.token; rw [if_neg (by rw [HL.out]; decide), if_neg HQ.out, if_pos hsg]⟩
        have hnn : 0 ≤ ((signsL.findIdx (· == c) : Nat) : Int) := Int.natCast_nonneg _
        clear hsg hsi
        generalize ((signsL.findIdx (· == c) : Nat) : Int) = si at *
        have x0 := (blk_cell HS1.out 0).trans rfl
        have x1 := (blk_cell HS1.out 1).trans rfl
        have x2 := (blk_cell HX1.out.1 1).trans rfl
        have x3 := blk_frozen HX1.out.1 1
        go_wp2_with (first | (go_at_call 47; refine (HCL.out _).mono ?_; rintro e w3 ⟨rfl, rfl⟩) | (go_at_call 50; refine (HSI.out _).mono ?_; rintro e w3 ⟨rfl, rfl⟩))
        have hle1 : a + 1 ≤ (s.size : Int) := by omega
        have hle0 : a ≤ a + 1 := by omega
        have hnn1 : 0 ≤ a + 1 := by omega
        have hw1 : wrap64 (a + 1) = a + 1 := by unfold wrap64; omega
        refine start_ (n := 16) (S := fun w' => w'.cell? ⟨g, 0, none⟩ = some (.string s) ∧ w'.cell? ⟨g, 1, none⟩ = some (.int .i64 a)) (ds := [15]) #[false, false, false, false, false, false, false, false, false, false, false, false, false, false, false, false] (by kernel_rfl) rfl rfl ⟨x0, x1⟩ (fun hHeld => ?_)
        refine pure_ (i := 0) (N := some 35) (v := ?_) (a' := ?_) #[true, false, false, false, false, false, false, false, false, false, false, false, false, false, false, false] rfl rfl (by kernel_rfl) (fun _ _ _ h => h) (Or.inl ⟨by rfl, ?_⟩) ?_ ?_
        rotate_left
        · intro w'
          go_simp
          with_reducible rfl
        rotate_left
        · simp only [Act.put, List.setIfInBounds_toArray, List.set_cons_zero, List.set_cons_succ, i64_w, i32_w]
          rfl
        refine pure_ (i := 1) (N := some 36) (v := ?_) (a' := ?_) #[true, true, false, false, false, false, false, false, false, false, false, false, false, false, false, false] rfl rfl (by kernel_rfl) (fun _ _ _ h => h) (Or.inl ⟨by rfl, ?_⟩) ?_ ?_
        rotate_left
        · intro w'
          go_simp
          with_reducible rfl
        rotate_left
        · simp only [Act.put, List.setIfInBounds_toArray, List.set_cons_zero, List.set_cons_succ, i64_w, i32_w]
          rfl
        refine pure_ (i := 2) (N := some 37) (v := ?_) (a' := ?_) #[true, true, true, false, false, false, false, false, false, false, false, false, false, false, false, false] rfl rfl (by kernel_rfl) (fun _ _ _ h => h) (Or.inl ⟨by rfl, ?_⟩) ?_ ?_
        rotate_left
        · intro w'
          go_simp
          with_reducible rfl
        rotate_left
        · simp only [Act.put, List.setIfInBounds_toArray, List.set_cons_zero, List.set_cons_succ, i64_w, i32_w]
          rfl
        refine pure_ (i := 4) (N := some 39) (v := ?_) (a' := ?_) #[true, true, true, false, true, false, false, false, false, false, false, false, false, false, false, false] rfl rfl (by kernel_rfl) (fun _ _ _ h => h) (Or.inl ⟨by rfl, ?_⟩) ?_ ?_
        rotate_left
        · intro w'
          go_simp
          with_reducible rfl
        rotate_left
        · simp only [Act.put, List.setIfInBounds_toArray, List.set_cons_zero, List.set_cons_succ, i64_w, i32_w]
          rfl
        refine pure_ (i := 5) (N := some 40) (v := ?_) (a' := ?_) #[true, true, true, false, true, true, false, false, false, false, false, false, false, false, false, false] rfl rfl (by kernel_rfl) (fun _ _ _ h => h) (Or.inl ⟨by rfl, ?_⟩) ?_ ?_
        rotate_left
        · intro w'
          go_simp
          with_reducible rfl
        rotate_left
        · simp only [Act.put, List.setIfInBounds_toArray, List.set_cons_zero, List.set_cons_succ, i64_w, i32_w]
          rfl
        refine pure_ (i := 6) (N := some 41) (v := ?_) (a' := ?_) #[true, true, true, false, true, true, true, false, false, false, false, false, false, false, false, false] rfl rfl (by kernel_rfl) (fun _ _ _ h => h) (Or.inl ⟨by rfl, ?_⟩) ?_ ?_
        rotate_left
        · intro w'
          go_simp
          with_reducible rfl
        rotate_left
        · simp only [Act.put, List.setIfInBounds_toArray, List.set_cons_zero, List.set_cons_succ, i64_w, i32_w]
          rfl
        refine pure_ (i := 8) (N := some 43) (v := ?_) (a' := ?_) #[true, true, true, false, true, true, true, false, true, false, false, false, false, false, false, false] rfl rfl (by kernel_rfl) (fun _ _ _ h => h) (Or.inl ⟨by rfl, ?_⟩) ?_ ?_
        rotate_left
        · intro w'
          go_simp
          with_reducible rfl
        rotate_left
        · simp only [Act.put, List.setIfInBounds_toArray, List.set_cons_zero, List.set_cons_succ, i64_w, i32_w]
          rfl
        refine pure_ (i := 9) (N := some 44) (v := ?_) (a' := ?_) #[true, true, true, false, true, true, true, false, true, true, false, false, false, false, false, false] rfl rfl (by kernel_rfl) (fun _ _ _ h => h) (Or.inl ⟨by rfl, ?_⟩) ?_ ?_
        rotate_left
        · intro w'
          go_simp
          with_reducible rfl
        rotate_left
        · simp only [Act.put, List.setIfInBounds_toArray, List.set_cons_zero, List.set_cons_succ, i64_w, i32_w]
          rfl
        refine pure_ (i := 10) (N := some 45) (v := ?_) (a' := ?_) #[true, true, true, false, true, true, true, false, true, true, true, false, false, false, false, false] rfl rfl (by kernel_rfl) (fun _ _ _ h => h) (Or.inl ⟨by rfl, ?_⟩) ?_ ?_
        rotate_left
        · intro w'
          go_simp
          with_reducible rfl
        rotate_left
        · simp only [Act.put, List.setIfInBounds_toArray, List.set_cons_zero, List.set_cons_succ, i64_w, i32_w]
          rfl
        refine take_ (i := 3) (N := some 38) (v := ?_) (a' := ?_) #[true, true, true, true, true, true, true, false, true, true, true, false, false, false, false, false] rfl rfl (by kernel_rfl) (fun _ _ _ h => h) (Or.inl ⟨by rfl, ?_⟩) hHeld ?_ ?_
        rotate_left
        · rintro w' ⟨s0, s1⟩
          go_simp
          with_reducible rfl
        rotate_left
        · simp only [Act.put, List.setIfInBounds_toArray, List.set_cons_zero, List.set_cons_succ, i64_w, i32_w]
          rfl
        refine take_ (i := 7) (N := some 42) (v := ?_) (a' := ?_) #[true, true, true, true, true, true, true, true, true, true, true, false, false, false, false, false] rfl rfl (by kernel_rfl) (fun _ _ _ h => h) (Or.inl ⟨by rfl, ?_⟩) hHeld ?_ ?_
        rotate_left
        · rintro w' ⟨s0, s1⟩
          go_simp
          with_reducible rfl
        rotate_left
        · simp only [Act.put, List.setIfInBounds_toArray, List.set_cons_zero, List.set_cons_succ, i64_w, i32_w]
          rfl
        refine take_ (i := 11) (N := some 46) (v := ?_) (a' := ?_) #[true, true, true, true, true, true, true, true, true, true, true, true, false, false, false, false] rfl rfl (by kernel_rfl) (fun _ _ _ h => h) (Or.inl ⟨by rfl, ?_⟩) hHeld ?_ ?_
        rotate_left
        · rintro w' ⟨s0, s1⟩
          go_simp
          with_reducible rfl
        rotate_left
        · simp only [Act.put, List.setIfInBounds_toArray, List.set_cons_zero, List.set_cons_succ, i64_w, i32_w]
          rfl
        refine pure_ (i := 12) (N := some 47) (v := ?_) (a' := ?_) #[true, true, true, true, true, true, true, true, true, true, true, true, true, false, false, false] rfl rfl (by kernel_rfl) (fun _ _ _ h => h) (Or.inl ⟨by rfl, ?_⟩) ?_ ?_
        rotate_left
        · intro w'
          go_simp
          with_reducible rfl
        rotate_left
        · simp only [Act.put, List.setIfInBounds_toArray, List.set_cons_zero, List.set_cons_succ, i64_w, i32_w]
          rfl
        refine pure_ (i := 13) (N := some 48) (v := ?_) (a' := ?_) #[true, true, true, true, true, true, true, true, true, true, true, true, true, true, false, false] rfl rfl (by kernel_rfl) (fun _ _ _ h => h) (Or.inl ⟨by rfl, ?_⟩) ?_ ?_
        rotate_left
        · intro w'
          go_simp
          with_reducible rfl
        rotate_left
        · simp only [Act.put, List.setIfInBounds_toArray, List.set_cons_zero, List.set_cons_succ, i64_w, i32_w]
          rfl
        refine pure_ (i := 14) (N := some 49) (v := ?_) (a' := ?_) #[true, true, true, true, true, true, true, true, true, true, true, true, true, true, true, false] rfl rfl (by kernel_rfl) (fun _ _ _ h => h) (Or.inl ⟨by rfl, ?_⟩) ?_ ?_
        rotate_left
        · intro w'
          go_simp
          with_reducible rfl
        rotate_left
        · simp only [Act.put, List.setIfInBounds_toArray, List.set_cons_zero, List.set_cons_succ, i64_w, i32_w]
          rfl
        refine last_ (i := 15) (N := none) #[true, true, true, true, true, true, true, true, true, true, true, true, true, true, true, true] rfl rfl (by kernel_rfl) (by decide) (fun K hK => ?_)
        refine skip_ (w1 := ?_) (by rfl) rfl ?_ ?_
        rotate_left
        · go_simp
          rfl
        refine hK.out _ _ ?_
        clear hK K
        refine done_ (by kernel_rfl) ?_
        clear x0 x1 x2 x3 hw1
        have hne : g ≠ bx := by omega
        have nbx : some bx ≠ v.ownBlock := by intro e; have := own_lt HB.out.own bx e.symm; omega
        have HX : (w2.setCell ⟨bx, 1, none⟩ (.string (s.extract a.toNat (a + 1).toNat))).drew.heap[bx]? = some (.cells #[.int .i64 3, .string (s.extract a.toNat (a + 1).toNat), .int .i64 line, .int .i64 col] 94 (0, 0)) := by
          refine blk_drew ?_; have := blk_set HX1.out.1 1 (.string (s.extract a.toNat (a + 1).toNat)); simpa using this
        have hS1 : Scn (w2.setCell ⟨bx, 1, none⟩ (.string (s.extract a.toNat (a + 1).toNat))).drew g s a line col v f5 f6 f7 := blk_far (p := ⟨bx, 1, none⟩) HS1.out hne _
        have hG1 : w.grownBy (w2.setCell ⟨bx, 1, none⟩ (.string (s.extract a.toNat (a + 1).toNat))).drew (some g) := grown_drew (grown_setNew (grown_some HG1.out _) hbge _)
        have htx : (s.extract a.toNat (a + 1).toNat).data.toList = [c] := by
          have := suf_cut q0 hle0 hle1
          rw [HC.out.1] at this
          exact List.append_cancel_right (this.trans (by rfl : c :: suf s (a + 1) = [c] ++ suf s (a + 1)))
        generalize (w2.setCell ⟨bx, 1, none⟩ (.string (s.extract a.toNat (a + 1).toNat))).drew = W0 at HX hS1 hG1 ⊢
        generalize s.extract a.toNat (a + 1).toNat = tx at HX htx ⊢
        have TX := Aside0.mk htx
        have GG0 := Aside0.mk hG1
        have SS0 := Aside0.mk hS1
        have XX0 := Aside0.mk HX
        have O0 := Aside0.mk (HB.out.own.kept hG1 (Or.inr (Ne.symm ng)))
        clear HX hS1 hG1 htx
        go_wp2_with (first | (go_at_call 46; refine (step_calls SS0.out HA.out hlt c HC.out.2).mono ?_; rintro e W1 ⟨rfl, hS1, hG1⟩))
        have HX := blk_grown XX0.out hG1 (show some bx ≠ some g by intro e; injection e with e; omega)
        have KG1 := Aside0.mk (GG0.out.trans hG1)
        have KS1 := Aside0.mk hS1
        have HO := O0.out.kept hG1 (Or.inr (Ne.symm ng))
        clear hG1
        have x0 := (blk_cell HX 0).trans rfl
        have x1 := (blk_cell HX 1).trans rfl
        have x2 := (blk_cell HX 2).trans rfl
        have x3 := (blk_cell HX 3).trans rfl
        have x4 : W1.cell? ⟨g, 4, none⟩ = some v := (blk_cell hS1 4).trans rfl
        clear hS1 HX
        obtain ⟨i0, hi0, hz0, hz1, hz2⟩ := info_parts infoTok
        have hsz : bx < W1.heap.size := World.block_lt_of_cell? W1 ⟨bx, 0, none⟩ x0
        have hgW : g < W1.heap.size := KS1.out.lt
        have hW1 : b ≤ W1.heap.size := by omega
        have zf : W1.frozen? ⟨g, 4, none⟩ = false := blk_frozen KS1.out 4
        have AL : ∀ {a u o}, W1.cell? a = some u → (W1.alloc o).drew.cell? a = some u := fun {a u o} h => (World.cell?_alloc_some W1 a o (by rw [h]; rfl)).trans h
        have AF : ∀ {o}, W1.frozen? ⟨g, 4, none⟩ = false → (W1.alloc o).drew.frozen? ⟨g, 4, none⟩ = false := fun {o} _ => blk_frozen ((KS1.out.alloc o).drew) 4
        refine start_ (n := 11) (S := fun w' => w'.cell? ⟨g, 4, none⟩ = some v ∧ w'.cell? ⟨bx, 0, none⟩ = some (.int .i64 3) ∧ w'.cell? ⟨bx, 1, none⟩ = some (.string tx) ∧ w'.cell? ⟨bx, 2, none⟩ = some (.int .i64 line) ∧ w'.cell? ⟨bx, 3, none⟩ = some (.int .i64 col)) (ds := [10]) #[false, false, false, false, false, false, false, false, false, false, false] (by kernel_rfl) rfl rfl ⟨x4, x0, x1, x2, x3⟩ (fun hHeld => ?_)
        refine pure_ (i := 0) (N := some 52) (v := ?_) (a' := ?_) #[true, false, false, false, false, false, false, false, false, false, false] rfl rfl (by kernel_rfl) (fun _ _ _ h => h) (Or.inl ⟨by rfl, ?_⟩) ?_ ?_
        rotate_left
        · intro w'
          go_simp
          with_reducible rfl
        rotate_left
        · simp only [Act.put, List.setIfInBounds_toArray, List.set_cons_zero, List.set_cons_succ, i64_w, i32_w]
          rfl
        refine pure_ (i := 1) (N := some 53) (v := ?_) (a' := ?_) #[true, true, false, false, false, false, false, false, false, false, false] rfl rfl (by kernel_rfl) (fun _ _ _ h => h) (Or.inl ⟨by rfl, ?_⟩) ?_ ?_
        rotate_left
        · intro w'
          go_simp
          with_reducible rfl
        rotate_left
        · simp only [Act.put, List.setIfInBounds_toArray, List.set_cons_zero, List.set_cons_succ, i64_w, i32_w]
          rfl
        refine pure_ (i := 2) (N := some 54) (v := ?_) (a' := ?_) #[true, true, true, false, false, false, false, false, false, false, false] rfl rfl (by kernel_rfl) (fun _ _ _ h => h) (Or.inl ⟨by rfl, ?_⟩) ?_ ?_
        rotate_left
        · intro w'
          go_simp
          with_reducible rfl
        rotate_left
        · simp only [Act.put, List.setIfInBounds_toArray, List.set_cons_zero, List.set_cons_succ, i64_w, i32_w]
          rfl
        refine pure_ (i := 3) (N := some 55) (v := ?_) (a' := ?_) #[true, true, true, true, false, false, false, false, false, false, false] rfl rfl (by kernel_rfl) (fun _ _ _ h => h) (Or.inl ⟨by rfl, ?_⟩) ?_ ?_
        rotate_left
        · intro w'
          go_simp
          with_reducible rfl
        rotate_left
        · simp only [Act.put, List.setIfInBounds_toArray, List.set_cons_zero, List.set_cons_succ, i64_w, i32_w]
          rfl
        refine take_ (i := 4) (N := some 56) (v := ?_) (a' := ?_) #[true, true, true, true, true, false, false, false, false, false, false] rfl rfl (by kernel_rfl) (fun _ _ _ h => h) (Or.inl ⟨by rfl, ?_⟩) hHeld ?_ ?_
        rotate_left
        · rintro w' ⟨s0, s1, s2, s3, s4⟩
          go_simp
          with_reducible rfl
        rotate_left
        · simp only [Act.put, List.setIfInBounds_toArray, List.set_cons_zero, List.set_cons_succ, i64_w, i32_w]
          rfl
        refine take_ (i := 5) (N := some 57) (v := ?_) (a' := ?_) #[true, true, true, true, true, true, false, false, false, false, false] rfl rfl (by kernel_rfl) (fun _ _ _ h => h) (Or.inl ⟨by rfl, ?_⟩) hHeld ?_ ?_
        rotate_left
        · rintro w' ⟨s0, s1, s2, s3, s4⟩
          go_simp
          with_reducible rfl
        rotate_left
        · simp only [Act.put, List.setIfInBounds_toArray, List.set_cons_zero, List.set_cons_succ, i64_w, i32_w]
          rfl
        refine one_ (i := 6) (N := some 58) #[true, true, true, true, true, true, true, false, false, false, false] rfl rfl (by kernel_rfl) (by decide) (fun K hK => ?_)
        refine value_ (w1 := ?_) (v := ?_) (by rfl) rfl ?_ ?_
        rotate_left 2
        · go_simp
          constructor
          · rfl
          · rfl
        refine hK.out _ _ ⟨(AL x4), (AL x0), (AL x1), (AL x2), (AL x3)⟩ (fun hHeld => ?_)
        clear hK K
        refine norm_ (a' := ?_) ?_ ?_
        rotate_left
        · show Act.put _ (some 58) _ = _
          simp only [Act.put, List.setIfInBounds_toArray, List.set_cons_zero, List.set_cons_succ, i64_w, i32_w]
          rfl
        refine one_ (i := 7) (N := some 59) #[true, true, true, true, true, true, true, true, false, false, false] rfl rfl (by kernel_rfl) (by decide) (fun K hK => ?_)
        refine step_append_lies _ (by rfl) _ _ _ (by rfl) b 94 i0 _ 4 40 Try.underlying75 hi0 hz0 hz1 hz2 rfl (by omega) v n xs (by rfl) ((HO.alloc _).drew) ⟨W1.heap.size, 0, none⟩ 1 1 [.int .i64 3, .string tx, .int .i64 line, .int .i64 col] (by rfl) (by rfl) (World.news_of_block (cs := #[.int .i64 3, .string tx, .int .i64 line, .int .i64 col]) (t := 94) (fr := (0, 0)) (heap_alloc_new W1 _)) (by simp [Value.oneCell']) (by omega) (by unfold maxLen; omega) (by omega) (by simp; omega) (W1.heap.size + 1) (by simp) ?_
        intro gg cap w1 hown1 hgrow hat hlt1
        have kf : ∀ a u, a.block < W1.heap.size → some a.block ≠ v.ownBlock → W1.cell? a = some u → w1.cell? a = some u := fun a u h1 h2 h3 => (hgrow.cell_far a (by simp; omega) h2).trans (AL h3)
        refine hK.out _ _ ⟨(kf _ _ hgW ng x4), (kf _ _ hsz nbx x0), (kf _ _ hsz nbx x1), (kf _ _ hsz nbx x2), (kf _ _ hsz nbx x3)⟩ (fun hHeld => ?_)
        clear hK K
        refine norm_ (a' := ?_) ?_ ?_
        rotate_left
        · show Act.put _ (some 59) _ = _
          simp only [Act.put, List.setIfInBounds_toArray, List.set_cons_zero, List.set_cons_succ, i64_w, i32_w]
          rfl
        refine pure_ (i := 8) (N := some 60) (v := ?_) (a' := ?_) #[true, true, true, true, true, true, true, true, true, false, false] rfl rfl (by kernel_rfl) (fun _ _ _ h => h) (Or.inl ⟨by rfl, ?_⟩) ?_ ?_
        rotate_left
        · intro w'
          go_simp
          with_reducible rfl
        rotate_left
        · simp only [Act.put, List.setIfInBounds_toArray, List.set_cons_zero, List.set_cons_succ, i64_w, i32_w]
          rfl
        refine pure_ (i := 9) (N := some 61) (v := ?_) (a' := ?_) #[true, true, true, true, true, true, true, true, true, true, false] rfl rfl (by kernel_rfl) (fun _ _ _ h => h) (Or.inl ⟨by rfl, ?_⟩) ?_ ?_
        rotate_left
        · intro w'
          go_simp
          with_reducible rfl
        rotate_left
        · simp only [Act.put, List.setIfInBounds_toArray, List.set_cons_zero, List.set_cons_succ, i64_w, i32_w]
          rfl
        refine last_ (i := 10) (N := none) #[true, true, true, true, true, true, true, true, true, true, true] rfl rfl (by kernel_rfl) (by decide) (fun K hK => ?_)
        have z4 : w1.frozen? ⟨g, 4, none⟩ = false := (hgrow.frozen_far ⟨g, 4, none⟩ (by simp; omega) ng).trans (AF zf)
        have y4 := kf ⟨g, 4, none⟩ _ hgW ng x4
        refine skip_ (w1 := ?_) (by rfl) rfl ?_ ?_
        rotate_left
        · go_simp
          rfl
        refine hK.out _ _ ?_
        clear hK K
        refine done_ (by kernel_rfl) ?_
        go_wp2
        go_ret
        rw [HT.out]
        have fin := append_close (P := True) (ys := [.int .i64 3, .string tx, .int .i64 line, .int .i64 col]) hgW hge ((Below.refl b W1)) KS1.out HO hgrow hown1 ng trivial
        obtain ⟨-, v', hs', hb'⟩ := fin
        exact ⟨rfl, tx, v', a + 1, TX.out, rfl, HA.out.step hlt c, hs', (below_grown KG1.out hge hglt).trans hb'⟩
end Go.Proofs.Ytdbkooliafkcgaa.Lw

set_option linter.unusedVariables false
set_option linter.unusedSimpArgs false
namespace Go.Proofs.Ytdbkooliafkcgaa.Lw
open Go.RowKit Go.Proofs.YtdbkooliafkcgaaW.PrintWords Go.Proofs.YtdbkooliafkcgaaW.PrintLast Go.Proofs.YtdbkooliafkcgaaW.PrintMore Go.Proofs.Ytdbkooliafkcgaa

def tokCells (t : Lx.Tok) : List Value := [.int .i64 t.kind, .string ⟨t.text.toArray⟩, .int .i64 t.p.1, .int .i64 t.p.2]
theorem tok_text {tb : ByteArray} {l : List UInt8} (h : tb.data.toList = l) : tb = ⟨l.toArray⟩ := by
  cases tb with
  | mk d => cases h; simp
def ScanR (b : Nat) (W0 : World) (g : Nat) (s : ByteArray) (R : Except Lx.Flt (List Lx.Tok)) (k : Nat) (wr : World) : Prop :=
  ∃ (a l c : Int) (v : Value) (toks : List Lx.Tok) (m : Nat), Scs b wr g s a l c v (toks.flatMap tokCells) toks.length 0 0 0 ∧ At s a l c ∧ Below b W0 wr ∧ Lx.skip false (suf s a) (l, c) = (suf s a, (l, c)) ∧
    Lx.scanF m (suf s a) (l, c) toks = R ∧ (toks.length : Int) ≤ a ∧ (s.size : Int) - a < k ∧ (s.size : Int) - a < m
/-- What Scan leaves. -/
def ScanP (w : World) (R : Except Lx.Flt (List Lx.Tok)) (x : Ending) (w' : World) : Prop :=
  match R with
  | .error f => x = .returned (.tuple #[.slice none 0 0, .agg #[.int .i64 f.p.1, .int .i64 f.p.2, .int .i64 f.code]]) ∧ Below w.heap.size w w'
  | .ok toks => ∃ v : Value, x = .returned (.tuple #[v, .agg #[.int .i64 0, .int .i64 0, .int .i64 0]]) ∧ w'.ownsRow w.heap.size 94 4 v toks.length (toks.flatMap tokCells) ∧ Below w.heap.size w w'

theorem infoFlt : (Try.prog.info? 57).map (·.size) = some 3 := by kernel_rfl
theorem flt_store {w : World} {q T : Nat} {x0 x1 x2 : Value} (h : w.heap[q]? = some (.cells #[x0, x1, x2] T (0, 0))) (y0 y1 y2 : Value) :
    (((w.setCell ⟨q, 0, none⟩ y0).setCell ⟨q, 1, none⟩ y1).setCell ⟨q, 2, none⟩ y2).heap[q]? = some (.cells #[y0, y1, y2] T (0, 0)) := by
  have := blk_set (blk_set (blk_set h 0 y0) 1 y1) 2 y2
  simpa using this
theorem below_set3 {B : Nat} {w w' : World} {q : Nat} (h : Below B w w') (hq : B ≤ q) (y0 y1 y2 : Value) : Below B w (((w'.setCell ⟨q, 0, none⟩ y0).setCell ⟨q, 1, none⟩ y1).setCell ⟨q, 2, none⟩ y2) :=
  ((h.setCell (p := ⟨q, 0, none⟩) hq y0).setCell (p := ⟨q, 1, none⟩) hq y1).setCell (p := ⟨q, 2, none⟩) hq y2

set_option maxHeartbeats 2000000 in
set_option maxRecDepth 100000 in
theorem scan_calls (s : ByteArray) (w : World) :
    Calls Try.prog 27 #[.string s] w (ScanP w (Lx.scan s.data.toList)) := by
  have hsl : s.data.toList.length = s.size := Array.length_toList
  by_cases hbig : 65536 < (s.size : Int)
  · have HR : Aside0 (Lx.scan s.data.toList = .error ⟨(0, 0), 6⟩) := ⟨by unfold Lx.scan; rw [if_pos (by omega)]⟩
    clear hsl
    go_enter Try.func27, Try.ntmps27
    go_wp2_with fail
    rw [HR.out]
    refine bodyPost_ret (results_tc (ty := 57) (u := 2) (p := 3) rfl _ _ w.heap.size 57 #[.int .i64 0, .int .i64 0, .int .i64 6] (0, 0) _ rfl ?_ Try.underlying57 rfl infoFlt) rfl ⟨rfl, ?_⟩
    · exact blk_new w _
    · exact below_alloc (Below.refl _ _) _
  · have HR : Aside0 (Lx.scan s.data.toList = Lx.scanF (s.data.toList.length + 1) s.data.toList (1, 1) []) := ⟨by unfold Lx.scan; rw [if_neg (by omega)]⟩
    have hle : (s.size : Int) ≤ 65536 := by omega
    clear hbig
    go_enter Try.func27, Try.ntmps27
    go_wp2_with fail
    have hq0 := blk_new w (.cells #[.int .i64 0, .int .i64 0, .int .i64 0] 57)
    have HQ := Aside0.mk (blk_alloc hq0 (.cells #[.string s, .int .i64 0, .int .i64 1, .int .i64 1, .slice none 0 0, .int .i64 0, .int .i64 0, .int .i64 0] 92))
    have hS : Scn ((w.alloc (.cells #[.int .i64 0, .int .i64 0, .int .i64 0] 57)).alloc (.cells #[.string s, .int .i64 0, .int .i64 1, .int .i64 1, .slice none 0 0, .int .i64 0, .int .i64 0, .int .i64 0] 92)) (w.heap.size + 1) s 0 1 1 (.slice none 0 0) 0 0 0 := by
      have := blk_new (w.alloc (.cells #[.int .i64 0, .int .i64 0, .int .i64 0] 57)) (.cells #[.string s, .int .i64 0, .int .i64 1, .int .i64 1, .slice none 0 0, .int .i64 0, .int .i64 0, .int .i64 0] 92)
      rw [World.size_alloc] at this
      exact this
    have HB0 := Aside0.mk (below_alloc (below_alloc (Below.refl w.heap.size w) (.cells #[.int .i64 0, .int .i64 0, .int .i64 0] 57)) (.cells #[.string s, .int .i64 0, .int .i64 1, .int .i64 1, .slice none 0 0, .int .i64 0, .int .i64 0, .int .i64 0] 92))
    clear hq0
    generalize ((w.alloc (.cells #[.int .i64 0, .int .i64 0, .int .i64 0] 57)).alloc (.cells #[.string s, .int .i64 0, .int .i64 1, .int .i64 1, .slice none 0 0, .int .i64 0, .int .i64 0, .int .i64 0] 92)) = W0 at HQ hS HB0 ⊢
    generalize hqx : w.heap.size = q at HQ hS HB0 ⊢
    have EQ := Aside0.mk hqx
    clear hqx
    generalize hg : q + 1 = g at hS ⊢
    have HS := Aside0.mk hS
    have hA : At s 0 1 1 := ⟨by omega, by omega, by omega, by omega, by omega, by omega⟩
    have hqg : q < g := by omega
    clear hg
    refine (skip_calls hS hA).mono ?_
    rintro e w1 ⟨rfl, a1, l1, c1, hS1, hG1, hA1, ha1, hk1, hk1'⟩
    have HA1 := Aside0.mk hA1
    have HS1 := Aside0.mk hS1
    have HG1 := Aside0.mk hG1
    have HK1 := Aside0.mk (And.intro hk1 hk1')
    have r0 := hA1.a0
    have hB1 := Aside0.mk (below_grown hG1 (Nat.le_refl g) HS.out.lt)
    clear hS hA hS1 hG1 hA1 hk1 hk1'
    go_wp2_with fail
    go_loopg [] (s.size + 1) (fun k wr => ScanR g W0 g s (Lx.scan s.data.toList) k wr)
    case atStart =>
      refine ⟨a1, l1, c1, .slice none 0 0, [], s.data.toList.length + 1, ⟨HS1.out, own_nil _ _ _ _, Nat.le_refl _⟩, HA1.out, hB1.out, HK1.out.2, ?_, by simpa using r0, by omega, by omega⟩
      rw [HR.out]
      have e0 : suf s 0 = s.data.toList := rfl
      have e1 := HK1.out.1
      rw [e0] at e1
      simp only [Lx.scanF, e1, HK1.out.2]
    case round =>
      obtain ⟨a', l', c', v, toks, m, hSc, hT, hBW, hsk, hsc, htl, hk, hm⟩ := hrel
      have LC := Aside0.mk hSc
      have LT := Aside0.mk hT
      have LB := Aside0.mk hBW
      have LK := Aside0.mk (And.intro hsk hsc)
      have r0' := hT.a0
      have r1' := hT.a1
      have hgw : g < wr.heap.size := hSc.scn.lt
      have hqw := Aside0.mk ((hBW.block q hqg).trans HQ.out)
      clear hSc hT hBW hsk hsc
      by_cases hlt' : a' < (s.size : Int)
      · obtain ⟨c, hc, hcb⟩ := suf_cons r0' hlt'
        have HC := Aside0.mk (And.intro hc hcb)
        clear hc hcb
        obtain ⟨m, rfl⟩ : ∃ m', m = m' + 1 := ⟨m - 1, by omega⟩
        go_wp2_with (first | (go_at_call 35; refine (more_yes LC.out.scn hlt').mono ?_; rintro e w4 ⟨rfl, n4, hn4⟩))
        have LC4 := Aside0.mk (show Scs g w4 g s a' l' c' v (toks.flatMap tokCells) toks.length 0 0 0 by rw [← hn4]; exact ⟨LC.out.scn, LC.out.own, LC.out.ge⟩)
        have LB4 := Aside0.mk (show Below g W0 w4 by rw [← hn4]; exact pw_below_drewN LB.out _)
        clear hn4
        refine (token_calls LC4.out LT.out (by omega) hlt' c HC.out.1 HC.out.2).mono ?_
        intro e w5 hE
        cases hres : Lx.token c (suf s (a' + 1)) (l', c') with
        | error f =>
          rw [hres] at hE
          obtain ⟨rfl, k5, l5, c5, v5, hS5, hB5⟩ := hE
          have HRS := Aside0.mk hres
          have HB5 := Aside0.mk (LB4.out.trans hB5)
          have HQ5 := Aside0.mk (((LB4.out.trans hB5).block q hqg).trans HQ.out)
          have x5 := (blk_cell hS5 5).trans rfl
          have x6 := (blk_cell hS5 6).trans rfl
          have x7 := (blk_cell hS5 7).trans rfl
          have y0 := (blk_cell HQ5.out 0).trans rfl
          have y1 := (blk_cell HQ5.out 1).trans rfl
          have y2 := (blk_cell HQ5.out 2).trans rfl
          have z0 := blk_frozen HQ5.out 0
          have z1 := blk_frozen HQ5.out 1
          have z2 := blk_frozen HQ5.out 2
          clear hres hB5 hS5
          obtain ⟨p5, e7⟩ := f
          obtain ⟨e5, e6⟩ := p5
          dsimp only at x5 x6 x7
          go_wp2_with fail
          refine start_ (n := 6) (S := fun w' => w'.cell? ⟨g, 5, none⟩ = some (.int .i64 e5) ∧ w'.cell? ⟨g, 6, none⟩ = some (.int .i64 e6) ∧ w'.cell? ⟨g, 7, none⟩ = some (.int .i64 e7)) (ds := [5]) #[false, false, false, false, false, false] (by kernel_rfl) rfl rfl ⟨x5, x6, x7⟩ (fun hHeld => ?_)
          refine pure_ (i := 0) (N := some 21) (v := ?_) (a' := ?_) #[true, false, false, false, false, false] rfl rfl (by kernel_rfl) (fun _ _ _ h => h) (Or.inl ⟨by rfl, ?_⟩) ?_ ?_
          rotate_left
          · intro w'
            go_simp
            with_reducible rfl
          rotate_left
          · simp only [Act.put, List.setIfInBounds_toArray, List.set_cons_zero, List.set_cons_succ, i64_w, i32_w]
            rfl
          refine pure_ (i := 1) (N := some 22) (v := ?_) (a' := ?_) #[true, true, false, false, false, false] rfl rfl (by kernel_rfl) (fun _ _ _ h => h) (Or.inl ⟨by rfl, ?_⟩) ?_ ?_
          rotate_left
          · intro w'
            go_simp
            with_reducible rfl
          rotate_left
          · simp only [Act.put, List.setIfInBounds_toArray, List.set_cons_zero, List.set_cons_succ, i64_w, i32_w]
            rfl
          refine pure_ (i := 2) (N := some 23) (v := ?_) (a' := ?_) #[true, true, true, false, false, false] rfl rfl (by kernel_rfl) (fun _ _ _ h => h) (Or.inl ⟨by rfl, ?_⟩) ?_ ?_
          rotate_left
          · intro w'
            go_simp
            with_reducible rfl
          rotate_left
          · simp only [Act.put, List.setIfInBounds_toArray, List.set_cons_zero, List.set_cons_succ, i64_w, i32_w]
            rfl
          refine pure_ (i := 4) (N := some 2) (v := ?_) (a' := ?_) #[true, true, true, false, true, false] rfl rfl (by kernel_rfl) (fun _ _ _ h => h) (Or.inl ⟨by rfl, ?_⟩) ?_ ?_
          rotate_left
          · intro w'
            go_simp
            with_reducible rfl
          rotate_left
          · simp only [Act.put, List.setIfInBounds_toArray, List.set_cons_zero, List.set_cons_succ, i64_w, i32_w]
            rfl
          refine take_ (i := 3) (N := some 24) (v := ?_) (a' := ?_) #[true, true, true, true, true, false] rfl rfl (by kernel_rfl) (fun _ _ _ h => h) (Or.inl ⟨by rfl, ?_⟩) hHeld ?_ ?_
          rotate_left
          · rintro w' ⟨s0, s1, s2⟩
            go_simp
            with_reducible rfl
          rotate_left
          · simp only [Act.put, List.setIfInBounds_toArray, List.set_cons_zero, List.set_cons_succ, i64_w, i32_w]
            rfl
          refine last_ (i := 5) (N := none) #[true, true, true, true, true, true] rfl rfl (by kernel_rfl) (by decide) (fun K hK => ?_)
          refine skip_ (w1 := ?_) (by rfl) rfl ?_ ?_
          rotate_left
          · go_simp
            rfl
          refine hK.out _ _ ?_
          clear hK K
          refine done_ (by kernel_rfl) ?_
          go_wp2_with fail
          have RR : Aside0 (Lx.scan s.data.toList = .error ⟨(e5, e6), e7⟩) := ⟨by
            rw [← LK.out.2, HC.out.1]
            have e := LK.out.1
            rw [HC.out.1] at e
            simp only [Lx.scanF, e, HRS.out]⟩
          rw [RR.out]
          refine bodyPost_ret (results_tc (ty := 57) (u := 2) (p := 3) rfl _ _ q 57 #[.int .i64 e5, .int .i64 e6, .int .i64 e7] (0, 0) _ rfl ?_ Try.underlying57 rfl infoFlt) rfl ⟨rfl, ?_⟩
          · exact blk_drew (flt_store HQ5.out _ _ _)
          · have hq0 := EQ.out
            refine below_drew (below_set3 ?_ (Nat.le_of_eq hq0) _ _ _)
            exact (Below.mono HB0.out (by omega)).trans (HB5.out.mono (by omega))
        | ok r =>
          obtain ⟨t, rest, p'⟩ := r
          rw [hres] at hE
          obtain ⟨rfl, tb, v5, a5, htb, hr5, hA5, hC5, hB5⟩ := hE
          have HRS := Aside0.mk hres
          have HB5 := Aside0.mk (LB4.out.trans hB5)
          have h5a := hA5.a0
          have h5b := hA5.a1
          have hlen : a' + 1 ≤ a5 := by
            have h1 := Lx.token_len hres
            rw [← hr5, suf_length, suf_length] at h1
            omega
          have HTB := Aside0.mk (And.intro (tok_text htb) hr5)
          have KC := Aside0.mk hC5
          have KA := Aside0.mk hA5
          clear hres hB5 htb hr5 hC5 hA5
          go_wp2_with fail
          refine (skip_calls KC.out.scn KA.out).mono ?_
          rintro e w6 ⟨rfl, a6, l6, c6, hS6, hG6, hA6, ha6, hk6, hk6'⟩
          have KS6 := Aside0.mk hS6
          have KG6 := Aside0.mk hG6
          have KA6 := Aside0.mk hA6
          have KK6 := Aside0.mk (And.intro hk6 hk6')
          have h6b := hA6.a1
          clear hS6 hG6 hA6 hk6 hk6'
          go_wp2_with fail
          go_roundg (((s.size : Int) - a6).toNat + 1)
          case measure => omega
          case rel =>
            have ng : some g ≠ v5.ownBlock := own_ne (g := g) (t := 92) KC.out.own KC.out.scn (by decide)
            refine ⟨a6, l6, c6, v5, toks ++ [t], m, ⟨KS6.out, ?_, Nat.le_refl _⟩, KA6.out, HB5.out.trans (below_grown KG6.out (Nat.le_refl _) KC.out.scn.lt), KK6.out.2, ?_, by simp; omega, by omega, by omega⟩
            · have := KC.out.own.kept KG6.out (Or.inr (Ne.symm ng))
              have e : (toks ++ [t]).flatMap tokCells = toks.flatMap tokCells ++ [.int .i64 t.kind, .string tb, .int .i64 t.p.1, .int .i64 t.p.2] := by
                rw [List.flatMap_append, HTB.out.1]; simp [tokCells]
              rw [e, List.length_append]
              exact this
            · rw [← LK.out.2, HC.out.1]
              have e := LK.out.1
              rw [HC.out.1] at e
              simp only [Lx.scanF, e, HRS.out]
              have e2 := KK6.out.1
              rw [HTB.out.2] at e2
              cases m with
              | zero => omega
              | succ m => simp only [Lx.scanF]; rw [show (p'.1, p'.2) = p' from rfl] at e2; rw [e2, KK6.out.2]
      · have hle' : (s.size : Int) ≤ a' := by omega
        clear hlt'
        obtain ⟨m, rfl⟩ : ∃ m', m = m' + 1 := by
          cases m with
          | zero => exfalso; omega
          | succ m => exact ⟨m, rfl⟩
        go_wp2_with (first | (go_at_call 35; refine (more_no LC.out.scn hle').mono ?_; rintro e w4 ⟨rfl, n4, hn4⟩))
        have LS := Aside0.mk (show Scn w4 g s a' l' c' v 0 0 0 by rw [← hn4]; exact LC.out.scn)
        have LO := Aside0.mk (show w4.ownsRow g 94 4 v toks.length (toks.flatMap tokCells) by rw [← hn4]; exact LC.out.own)
        have LB4 := Aside0.mk (show Below g W0 w4 by rw [← hn4]; exact pw_below_drewN LB.out _)
        have HQ4 := Aside0.mk ((LB4.out.block q hqg).trans HQ.out)
        have hbW : g ≤ w4.heap.size := by have := LS.out.lt; omega
        have yq0 := (blk_cell HQ4.out 0).trans rfl
        have yq1 := (blk_cell HQ4.out 1).trans rfl
        have yq2 := (blk_cell HQ4.out 2).trans rfl
        have zq0 := blk_frozen HQ4.out 0
        have zq1 := blk_frozen HQ4.out 1
        have zq2 := blk_frozen HQ4.out 2
        obtain ⟨i0, hi0, hz0, hz1, hz2⟩ := info_parts infoTok
        have hqb := hqg
        clear hn4
        refine start_ (n := 11) (S := fun w' => Scn w' g s a' l' c' v 0 0 0 ∧ w'.cell? ⟨g, 4, none⟩ = some v) (ds := [10]) #[false, false, false, false, false, false, false, false, false, false, false] (by kernel_rfl) rfl rfl ⟨LS.out, ((blk_cell LS.out 4).trans rfl)⟩ (fun hHeld => ?_)
        refine pure_ (i := 0) (N := some 25) (v := ?_) (a' := ?_) #[true, false, false, false, false, false, false, false, false, false, false] rfl rfl (by kernel_rfl) (fun _ _ _ h => h) (Or.inl ⟨by rfl, ?_⟩) ?_ ?_
        rotate_left
        · intro w'
          go_simp
          with_reducible rfl
        rotate_left
        · simp only [Act.put, List.setIfInBounds_toArray, List.set_cons_zero, List.set_cons_succ, i64_w, i32_w]
          rfl
        refine pure_ (i := 1) (N := some 26) (v := ?_) (a' := ?_) #[true, true, false, false, false, false, false, false, false, false, false] rfl rfl (by kernel_rfl) (fun _ _ _ h => h) (Or.inl ⟨by rfl, ?_⟩) ?_ ?_
        rotate_left
        · intro w'
          go_simp
          with_reducible rfl
        rotate_left
        · simp only [Act.put, List.setIfInBounds_toArray, List.set_cons_zero, List.set_cons_succ, i64_w, i32_w]
          rfl
        refine pure_ (i := 2) (N := some 27) (v := ?_) (a' := ?_) #[true, true, true, false, false, false, false, false, false, false, false] rfl rfl (by kernel_rfl) (fun _ _ _ h => h) (Or.inl ⟨by rfl, ?_⟩) ?_ ?_
        rotate_left
        · intro w'
          go_simp
          with_reducible rfl
        rotate_left
        · simp only [Act.put, List.setIfInBounds_toArray, List.set_cons_zero, List.set_cons_succ, i64_w, i32_w]
          rfl
        refine pure_ (i := 4) (N := some 29) (v := ?_) (a' := ?_) #[true, true, true, false, true, false, false, false, false, false, false] rfl rfl (by kernel_rfl) (fun _ _ _ h => h) (Or.inl ⟨by rfl, ?_⟩) ?_ ?_
        rotate_left
        · intro w'
          go_simp
          with_reducible rfl
        rotate_left
        · simp only [Act.put, List.setIfInBounds_toArray, List.set_cons_zero, List.set_cons_succ, i64_w, i32_w]
          rfl
        refine pure_ (i := 8) (N := some 33) (v := ?_) (a' := ?_) #[true, true, true, false, true, false, false, false, true, false, false] rfl rfl (by kernel_rfl) (fun _ _ _ h => h) (Or.inl ⟨by rfl, ?_⟩) ?_ ?_
        rotate_left
        · intro w'
          go_simp
          with_reducible rfl
        rotate_left
        · simp only [Act.put, List.setIfInBounds_toArray, List.set_cons_zero, List.set_cons_succ, i64_w, i32_w]
          rfl
        refine take_ (i := 3) (N := some 28) (v := ?_) (a' := ?_) #[true, true, true, true, true, false, false, false, true, false, false] rfl rfl (by kernel_rfl) (fun _ _ _ h => h) (Or.inl ⟨by rfl, ?_⟩) hHeld ?_ ?_
        rotate_left
        · rintro w' ⟨s0, s1⟩
          go_simp
          with_reducible rfl
        rotate_left
        · simp only [Act.put, List.setIfInBounds_toArray, List.set_cons_zero, List.set_cons_succ, i64_w, i32_w]
          rfl
        refine one_ (i := 5) (N := some 30) #[true, true, true, true, true, true, false, false, true, false, false] rfl rfl (by kernel_rfl) (by decide) (fun K hK => ?_)
        refine goes_ Try.func37 (by kernel_rfl) rfl #[.pointer (some ⟨g, 0, none⟩), .int .i64 4] (by rfl) rfl rfl (by simp only [List.map_toArray, List.map_cons, List.map_nil]; rfl) ?_
        with_reducible refine (here_scn hHeld.1 4).mono ?_
        rintro e w5 ⟨rfl, hg5, hS5⟩
        refine ⟨_, rfl, ?_⟩
        have hO5 := pw_own_below LO.out (below_of_grown (grown_from hg5))
        have hB5 : Below g w4 w5 := (below_of_grown (grown_from hg5)).mono hbW
        have hw5 : g ≤ w5.heap.size := Nat.le_trans hbW hB5.size
        refine hK.out _ _ ⟨hS5, ((blk_cell hS5 4).trans rfl)⟩ (fun hHeld => ?_)
        clear hK K
        refine norm_ (a' := ?_) ?_ ?_
        rotate_left
        · show Act.put _ (some 30) _ = _
          simp only [Act.put, List.setIfInBounds_toArray, List.set_cons_zero, List.set_cons_succ, i64_w, i32_w]
          rfl
        refine one_ (i := 6) (N := some 31) #[true, true, true, true, true, true, true, false, true, false, false] rfl rfl (by kernel_rfl) (by decide) (fun K hK => ?_)
        refine value_ (w1 := ?_) (v := ?_) (by rfl) rfl ?_ ?_
        rotate_left 2
        · go_simp
          constructor
          · rfl
          · rfl
        refine hK.out _ _ ⟨(hS5.alloc _), ((blk_cell (hS5.alloc _) 4).trans rfl)⟩ (fun hHeld => ?_)
        clear hK K
        refine norm_ (a' := ?_) ?_ ?_
        rotate_left
        · show Act.put _ (some 31) _ = _
          simp only [Act.put, List.setIfInBounds_toArray, List.set_cons_zero, List.set_cons_succ, i64_w, i32_w]
          rfl
        refine one_ (i := 7) (N := some 32) #[true, true, true, true, true, true, true, true, true, false, false] rfl rfl (by kernel_rfl) (by decide) (fun K hK => ?_)
        refine step_append_lies _ (by rfl) _ _ _ (by rfl) g 94 i0 _ 4 40 Try.underlying75 hi0 hz0 hz1 hz2 rfl (by omega) v toks.length (toks.flatMap tokCells) (by rfl) (hO5.alloc _) ⟨w5.heap.size, 0, none⟩ 1 1 [.int .i64 4, .string ⟨#[]⟩, .int .i64 l', .int .i64 c'] (by rfl) (by rfl) (World.news_of_block (cs := #[.int .i64 4, .string ⟨#[]⟩, .int .i64 l', .int .i64 c']) (t := 94) (fr := (0, 0)) (heap_alloc_new w5 _)) (by simp [Value.oneCell']) (by omega) (by unfold maxLen; omega) (by omega) (by simp; omega) (w5.heap.size + 1) (by simp) ?_
        intro gg cap w6 hown6 hgrow hat hlt6
        have ng : some g ≠ v.ownBlock := own_ne (g := g) (t := 92) hO5 hS5 (by decide)
        have hS6 : Scn w6 g s a' l' c' v 0 0 0 := (hS5.alloc _).grown hgrow ng
        have hB6 : Below g w4 w6 := Below.grown (hB5.alloc hw5 _) hgrow (by simp; omega) (own_base hO5)
        refine hK.out _ _ ⟨hS6, ((blk_cell hS6 4).trans rfl)⟩ (fun hHeld => ?_)
        clear hK K
        refine norm_ (a' := ?_) ?_ ?_
        rotate_left
        · show Act.put _ (some 32) _ = _
          simp only [Act.put, List.setIfInBounds_toArray, List.set_cons_zero, List.set_cons_succ, i64_w, i32_w]
          rfl
        refine pure_ (i := 9) (N := some 2) (v := ?_) (a' := ?_) #[true, true, true, true, true, true, true, true, true, true, false] rfl rfl (by kernel_rfl) (fun _ _ _ h => h) (Or.inl ⟨by rfl, ?_⟩) ?_ ?_
        rotate_left
        · intro w'
          go_simp
          with_reducible rfl
        rotate_left
        · simp only [Act.put, List.setIfInBounds_toArray, List.set_cons_zero, List.set_cons_succ, i64_w, i32_w]
          rfl
        refine last_ (i := 10) (N := none) #[true, true, true, true, true, true, true, true, true, true, true] rfl rfl (by kernel_rfl) (by decide) (fun K hK => ?_)
        have hw6 := hB6.cell (p := ⟨q, 0, none⟩) hqb
        have y0 : w6.cell? ⟨q, 0, none⟩ = some (.int .i64 0) := hw6.trans yq0
        have y1 : w6.cell? ⟨q, 1, none⟩ = some (.int .i64 0) := (hB6.cell (p := ⟨q, 1, none⟩) hqb).trans yq1
        have y2 : w6.cell? ⟨q, 2, none⟩ = some (.int .i64 0) := (hB6.cell (p := ⟨q, 2, none⟩) hqb).trans yq2
        have z0 : w6.frozen? ⟨q, 0, none⟩ = false := (hB6.frozen (p := ⟨q, 0, none⟩) hqb).trans zq0
        have z1 : w6.frozen? ⟨q, 1, none⟩ = false := (hB6.frozen (p := ⟨q, 1, none⟩) hqb).trans zq1
        have z2 : w6.frozen? ⟨q, 2, none⟩ = false := (hB6.frozen (p := ⟨q, 2, none⟩) hqb).trans zq2
        refine skip_ (w1 := ?_) (by rfl) rfl ?_ ?_
        rotate_left
        · go_simp
          rfl
        refine hK.out _ _ ?_
        clear hK K
        refine done_ (by kernel_rfl) ?_
        go_wp2_with fail
        have RR : Aside0 (Lx.scan s.data.toList = .ok (toks ++ [⟨4, [], (l', c')⟩])) := ⟨by
          rw [← LK.out.2, suf_nil hle']
          simp [Lx.scanF, Lx.skip]⟩
        rw [RR.out]
        have hq6 := (hB6.block q hqg).trans HQ4.out
        have hge : g ≤ gg := own_base hown6 gg rfl
        refine bodyPost_ret (results_tc (ty := 57) (u := 2) (p := 3) rfl _ _ q 57 #[.int .i64 0, .int .i64 0, .int .i64 0] (0, 0) _ rfl ?_ Try.underlying57 rfl infoFlt) rfl ⟨_, rfl, ?_, ?_⟩
        · exact blk_drew (flt_store hq6 _ _ _)
        · have hq0 := EQ.out
          have hne : some q ≠ (.slice (some ⟨gg, 0, none⟩) (toks.length + 1) cap : Value).ownBlock := by
            simp [Value.ownBlock]; omega
          have h3 := own_setCell (p := ⟨q, 2, none⟩) (own_setCell (p := ⟨q, 1, none⟩) (own_setCell (p := ⟨q, 0, none⟩) hown6 hne (.int .i64 0)) hne (.int .i64 0)) hne (.int .i64 0)
          have e : (toks ++ [(⟨4, [], (l', c')⟩ : Lx.Tok)]).flatMap tokCells = toks.flatMap tokCells ++ [.int .i64 4, .string ⟨#[]⟩, .int .i64 l', .int .i64 c'] := by
            rw [List.flatMap_append]; simp [tokCells]
          rw [e, List.length_append]
          exact own_weaken h3 (by omega)
        · have hq0 := EQ.out
          refine below_set3 ?_ (Nat.le_of_eq hq0) _ _ _
          exact (Below.mono HB0.out (by omega)).trans ((LB4.out.trans hB6).mono (by omega))
end Go.Proofs.Ytdbkooliafkcgaa.Lw
