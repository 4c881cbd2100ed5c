/- The walk of the laws' first example (chapter 5): a rule of two items. -/
import Derived.Test.YtgllncnfhiiobaaSynExt
set_option linter.unusedVariables false
set_option linter.unusedSimpArgs false
namespace Go.Proofs.Ytgllncnfhiiobaa.P
open Go.RowKit Go.Proofs.YtgllncnfhiiobaaW.PrintWords Go.Proofs.YtgllncnfhiiobaaW.PrintLast Go.Proofs.YtgllncnfhiiobaaW.PrintMore Go.Proofs.Ytgllncnfhiiobaa Go.Proofs.Ytgllncnfhiiobaa.Lw Go.Proofs.Ytgllncnfhiiobaa.Sw

def nodeA : S49 := ⟨3, ⟨#[]⟩, [⟨2, ⟨#[120]⟩, []⟩, ⟨5, ⟨#[]⟩, [⟨1, ⟨#[98]⟩, []⟩]⟩]⟩
def rulesA : List S51 := [⟨⟨#[97]⟩, nodeA⟩]
theorem parse_a : syntax_Parse.f ⟨#[97, 58, 32, 39, 120, 39, 32, 98, 63, 59]⟩ = some (⟨#[97]⟩, rulesA, 0, 0, 0) := by kernel_rfl
theorem same_a : syntax_Same.f ⟨#[97]⟩ rulesA ⟨#[97]⟩ rulesA = some true := by kernel_rfl
theorem proper_a : syntax_Proper.f ⟨#[97]⟩ rulesA = some true := by kernel_rfl
def primerlaw05_speaks.f : Option Bool := some true
set_option maxHeartbeats 4000000 in
set_option maxRecDepth 100000 in
theorem primerlaw05_speaks.calls (r : Bool) (w : World) (h : primerlaw05_speaks.f = some r) :
    Calls Try.prog 7 #[] w fun e w' => e = .returned (.bool r) ∧ Below w.heap.size w w' := by
  obtain rfl := Option.some.inj h
  clear h
  go_enter Try.func7, Try.ntmps7
  go_wp2_with (fail)
  refine (syntax_Parse.calls _ _ _ _ _ _ _ parse_a).mono ?_
  rintro e w1 ⟨v, rfl, hv, hb⟩
  obtain ⟨A, c, rfl⟩ := Kd.R_slice hv
  have HV := Aside0.mk hv
  have HB := Aside0.mk hb
  have HC := Aside0.mk (Kd.R_reads' hv).2.2
  have HL := Aside0.mk (Kd.R_reads' hv).2.1
  have hlen : rulesA.length = 1 := rfl
  obtain ⟨ad, A2, c2, rfl, hx0, hx1, hx2, hx3, hxl, hxC⟩ := at_T51 HC.out 0 (by omega) (by rw [hlen]; omega)
  obtain ⟨bd, A3, c3, hA2, hy0, hy1, hy2, hyl, hyC⟩ := at_T49 hxC 1 (by omega) (by show (1 : Int) < 2; omega)
  subst hA2
  have e0 : ad.add (Int.toNat 0 * 4) = ad := Addr.add_zero' ad
  rw [e0] at hx0 hx1 hx2 hx3
  have kx1 : ∀ o o', ((w1.alloc o).alloc o').cell? ⟨ad.block, ad.off + 1, none⟩ = some (.int .i64 3) := fun o o' => cell_alc (cell_alc hx1 o) o'
  have kx2 : ∀ o o', ((w1.alloc o).alloc o').cell? ⟨ad.block, ad.off + 2, none⟩ = some (.string ⟨#[]⟩) := fun o o' => cell_alc (cell_alc hx2 o) o'
  have kx3 : ∀ o o', ((w1.alloc o).alloc o').cell? ⟨ad.block, ad.off + 3, none⟩ = some (.slice (some bd) 2 c2) := fun o o' => cell_alc (cell_alc hx3 o) o'
  have ky0 : ∀ o o' o'', (((w1.alloc o).alloc o').alloc o'').cell? ⟨bd.block, bd.off + 3, none⟩ = some (.int .i64 5) := fun o o' o'' => cell_alc (cell_alc (cell_alc hy0 o) o') o''
  rw [hlen] at HC HL
  rw [hlen]
  clear hv hb hlen hx0 hx1 hx2 hx3 hy0 hy1 hy2 hxl hyl hyC hxC
  go_wp2_with (fail)
  refine (syntax_Same.calls ⟨#[97]⟩ (some ad) c rulesA ⟨#[97]⟩ (some ad) c rulesA true _ (Kd.C_alloc (Kd.C_alloc (Kd.C_alloc HC.out _) _) _) HL.out (Kd.C_alloc (Kd.C_alloc (Kd.C_alloc HC.out _) _) _) HL.out same_a).mono ?_
  rintro e w2 ⟨rfl, hb⟩
  have HC2 := Aside0.mk (Kd.C_below (Kd.C_alloc (Kd.C_alloc (Kd.C_alloc HC.out _) _) _) hb)
  have z1 := pw_cell_below hb (cell_alc (cell_alc (cellAt (blk_new w1 (.cells #[.string ⟨#[97]⟩, .slice (some ad) 1 c] 25)) 0 rfl) (.cells #[.int .i64 0, .int .i64 0, .int .i64 0] 28)) _)
  have z2 := pw_cell_below hb (cell_alc (cell_alc (cellAt (blk_new w1 (.cells #[.string ⟨#[97]⟩, .slice (some ad) 1 c] 25)) 1 rfl) (.cells #[.int .i64 0, .int .i64 0, .int .i64 0] 28)) _)
  have HB2 := Aside0.mk (below_step (below_alloc (below_alloc (below_alloc HB.out _) _) _) hb)
  clear hb kx1 kx2 kx3 ky0
  go_wp2_with (fail)
  refine (syntax_Proper.calls ⟨#[97]⟩ (some ad) c rulesA true _ HC2.out HL.out proper_a).mono ?_
  rintro e w3 ⟨rfl, hb⟩
  have HB3 := Aside0.mk (below_step HB2.out hb)
  clear hb
  go_wp2_with (fail)
  go_ret
  exact ⟨rfl, HB3.out⟩
end Go.Proofs.Ytgllncnfhiiobaa.P
