/- The reference's parser: Parse. -/
import Derived.Test.YtgllncnfhiiobaaRefF
import Derived.Test.YtgllncnfhiiobaaPx12
set_option linter.unusedVariables false
set_option linter.unusedSimpArgs false
namespace Go.Proofs.Ytgllncnfhiiobaa.Rw
open Go.RowKit Go.Proofs.YtgllncnfhiiobaaW.PrintWords Go.Proofs.YtgllncnfhiiobaaW.PrintLast Go.Proofs.YtgllncnfhiiobaaW.PrintMore Go.Proofs.Ytgllncnfhiiobaa Go.Proofs.Ytgllncnfhiiobaa.P Go.Proofs.Ytgllncnfhiiobaa.Lw Go.Proofs.Ytgllncnfhiiobaa.Sw

section
variable {w : World} {ts : List S102}
set_option maxHeartbeats 8000000 in
set_option maxRecDepth 100000 in
theorem parse_scan_bad {a0 : ByteArray} {k : Nat} {l c0 e0 : Int} (hs : primerref04_Scan.f k a0 = some (ts, l, c0, e0)) (he : e0 ≠ 0) :
    Calls Try.prog 9 #[.string a0] w (ParseRPost w (⟨#[]⟩, [], l, c0, e0)) := by
  have HS := Aside0.mk hs
  have b0 : (e0 != 0) = true := bne_iff_ne.mpr he
  have ZA := Aside0.mk (blk_alloc (blk_new w zG) zF)
  have ZB : Aside0 (((w.alloc zG).alloc zF).heap[w.heap.size + 1]? = some zF) := ⟨by have := blk_new (w.alloc zG) zF; rwa [World.size_alloc] at this⟩
  have BL := Aside0.mk (below_alloc (below_alloc (Below.refl w.heap.size w) zG) zF)
  clear hs he
  go_enter Try.func9, Try.ntmps9
  go_wp2_with (fail)
  refine (primerref04_Scan.calls k a0 ts l c0 e0 _ HS.out).mono ?_
  rintro e w3 ⟨v0, rfl, hv, hb⟩
  have BX := Aside0.mk (blk_new w3 (.cells #[.int .i64 l, .int .i64 c0, .int .i64 e0] 35))
  have ZA3 := Aside0.mk (blk_alloc (blk_below ZA.out hb) (.cells #[.int .i64 l, .int .i64 c0, .int .i64 e0] 35))
  have ZB3 := Aside0.mk (blk_alloc (blk_below ZB.out hb) (.cells #[.int .i64 l, .int .i64 c0, .int .i64 e0] 35))
  have BL3 := Aside0.mk (below_alloc (below_step BL.out hb) (.cells #[.int .i64 l, .int .i64 c0, .int .i64 e0] 35))
  have N3 := Aside0.mk (show w.heap.size + 1 < w3.heap.size from by have := blk_lt (blk_below ZB.out hb); omega)
  have n0 : w3.heap.size ≠ w.heap.size := by have := N3.out; omega
  have x0 := cellAt BX.out 0 rfl
  have x1 := cellAt BX.out 1 rfl
  have x2 := cellAt BX.out 2 rfl
  have p0 := cellAt ZA3.out 0 rfl
  have p1 := cellAt ZA3.out 1 rfl
  have y0 := blk_frozen ZA3.out 0
  have y1 := blk_frozen ZA3.out 1
  have hnn : w.heap.size + 1 ≠ w.heap.size := Nat.succ_ne_self _
  have ZB4 := Aside0.mk (blk_far (blk_far ZB3.out (p := ⟨w.heap.size, 0, none⟩) hnn (.string ⟨#[]⟩)) (p := ⟨w.heap.size, 1, none⟩) hnn (.slice none 0 0))
  have q0 := cellAt ZB4.out 0 rfl
  have q1 := cellAt ZB4.out 1 rfl
  have q2 := cellAt ZB4.out 2 rfl
  have z0 := blk_frozen ZB4.out 0
  have z1 := blk_frozen ZB4.out 1
  have z2 := blk_frozen ZB4.out 2
  clear hb
  go_wp2_with (fail)
  refine start_ (n := 4) (S := fun w' => w'.cell? ⟨w3.heap.size, 0, none⟩ = some (.int .i64 l) ∧ w'.cell? ⟨w3.heap.size, 1, none⟩ = some (.int .i64 c0) ∧ w'.cell? ⟨w3.heap.size, 2, none⟩ = some (.int .i64 e0)) (ds := [3]) #[false, false, false, false] (by kernel_rfl) rfl rfl ⟨x0, x1, x2⟩ (fun hHeld => ?_)
  refine pure_ (i := 0) (N := some 19) (v := ?_) (a' := ?_) #[true, false, false, false] rfl rfl (by kernel_rfl) (fun _ _ _ h => h) (Or.inl ⟨by rfl, ?_⟩) ?_ ?_
  rotate_left
  · intro w'
    go_simp
    with_reducible rfl
  rotate_left
  · simp only [Act.put, List.setIfInBounds_toArray, List.set_cons_zero, List.set_cons_succ, i64_w, i32_w]
    rfl
  refine take_ (i := 1) (N := some 20) (v := ?_) (a' := ?_) #[true, true, false, false] rfl rfl (by kernel_rfl) (fun _ _ _ h => h) (Or.inl ⟨by rfl, ?_⟩) hHeld ?_ ?_
  rotate_left
  · rintro w' ⟨s0, s1, s2⟩
    go_simp
    with_reducible rfl
  rotate_left
  · simp only [Act.put, List.setIfInBounds_toArray, List.set_cons_zero, List.set_cons_succ, i64_w, i32_w]
    rfl
  refine one_ (i := 2) (N := none) #[true, true, true, false] rfl rfl (by kernel_rfl) (by decide) (fun K hK => ?_)
  refine skip_ (w1 := ?_) (by rfl) rfl ?_ ?_
  rotate_left
  · go_simp
    rfl
  refine hK.out _ _ ⟨cellAt (blk_far (blk_far BX.out (p := ⟨w.heap.size, 0, none⟩) n0 _) (p := ⟨w.heap.size, 1, none⟩) n0 _) 0 rfl, cellAt (blk_far (blk_far BX.out (p := ⟨w.heap.size, 0, none⟩) n0 _) (p := ⟨w.heap.size, 1, none⟩) n0 _) 1 rfl, cellAt (blk_far (blk_far BX.out (p := ⟨w.heap.size, 0, none⟩) n0 _) (p := ⟨w.heap.size, 1, none⟩) n0 _) 2 rfl⟩ (fun hHeld => ?_)
  clear hK K
  refine last_ (i := 3) (N := none) #[true, true, true, true] rfl rfl (by kernel_rfl) (by decide) (fun K hK => ?_)
  refine skip_ (w1 := ?_) (by rfl) rfl ?_ ?_
  rotate_left
  · go_simp
    rfl
  refine hK.out _ _ ?_
  clear hK K
  refine done_ (by kernel_rfl) ?_
  clear hHeld
  go_wp2
  refine bodyPost_ret (results_cc (ty := 33) (ty' := 35) (p := 2) (p' := 3) rfl _ _ w.heap.size (w.heap.size + 1) 33 35 #[.string ⟨#[]⟩, .slice none 0 0] #[.int .i64 l, .int .i64 c0, .int .i64 e0] (0, 0) (0, 0) _ _ rfl ?_ Try.underlying33 rfl infoGramR rfl ?_ Try.underlying35 rfl infoFaultR) rfl ⟨.slice none 0 0, rfl, Kd.R_nil _ _ _ _ _, ?_⟩
  · exact blk_far3 (gram_store ZA3.out _ _) (Ne.symm hnn) _ _ _
  · exact node_store ZB4.out _ _ _
  · exact (((((below_drew1 BL3.out).setCell (p := ⟨w.heap.size, 0, none⟩) (Nat.le_refl _) _).setCell (p := ⟨w.heap.size, 1, none⟩) (Nat.le_refl _) _).setCell (p := ⟨w.heap.size + 1, 0, none⟩) (Nat.le_succ _) _).setCell (p := ⟨w.heap.size + 1, 1, none⟩) (Nat.le_succ _) _).setCell (p := ⟨w.heap.size + 1, 2, none⟩) (Nat.le_succ _) _
end
end Go.Proofs.Ytgllncnfhiiobaa.Rw
