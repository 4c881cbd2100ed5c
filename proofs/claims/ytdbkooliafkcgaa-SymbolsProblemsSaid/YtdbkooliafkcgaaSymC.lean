/- firsts: a range over slices.Backward. -/
import Derived.Test.YtdbkooliafkcgaaSymB
import Derived.RangeFuncNested
import Derived.RangeFuncLeaves
import Derived.RangeFuncBox
import Derived.RangeFuncWrites
import Derived.Shelf.Abstract
import Derived.OwnWalkIn
import Derived.TacticsInMore
import Derived.LoopNIn
import Derived.LoopIn
import Derived.Maps.OwnIn
set_option linter.unusedVariables false
set_option linter.unusedSimpArgs false
namespace Go.Proofs.Ytdbkooliafkcgaa.Yw
open Go.RowKit Go.Shelf Go.Maps Go.WideMaps Go.Proofs.YtdbkooliafkcgaaW.PrintWords Go.Proofs.Ytdbkooliafkcgaa Go.Proofs.Ytdbkooliafkcgaa.P
attribute [local go_sem] Oper.semAt_some

/-- What a round keeps: what lay below n₀, and the iterator's box. -/
def KpB (n₀ Bs : Nat) (W W' : World) : Prop := Below n₀ W W' ∧ W'.heap[Bs]? = W.heap[Bs]?
theorem KpB.trans {n₀ Bs : Nat} {A B C : World} (h : KpB n₀ Bs A B) (k : KpB n₀ Bs B C) : KpB n₀ Bs A C := ⟨h.1.trans k.1, k.2.trans h.2⟩
abbrev ruleV (x : S50) (v : Value) : Value := .agg #[.string x.f0, .int .i64 x.f1.f0, .string x.f1.f1, v]
/-- The places of a list, from the last on. -/
def backs (n : Nat) : List (Fin n) := (List.finRange n).reverse
theorem backs_length (n : Nat) : (backs n).length = n := by simp [backs]
theorem backs_get (n : Nat) {k : Nat} (h : k < n) : (backs n)[k]? = some ⟨n - 1 - k, by omega⟩ := by
  unfold backs
  rw [List.getElem?_reverse (by simpa using h), List.length_finRange, List.getElem?_eq_getElem (by simp; omega)]
  simp
theorem backs_take (n : Nat) {k : Nat} (h : k < n) : (backs n).take (k + 1) = (backs n).take k ++ [⟨n - 1 - k, by omega⟩] := by
  rw [List.take_add_one, backs_get n h]
  rfl
set_option maxRecDepth 100000 in
set_option maxHeartbeats 4000000 in
theorem back_in (F : Fence) (n : Nat) (hF : F.fn 44) (hro : F.round = none) (hn : 1 ≤ n) (l Bs n₀ : Nat) (A : Option Addr) (c : Nat) (rs : List S50) (w0 : World) (h0n : w0.heap.size = n₀) (hC : k50.C w0 A rs.length rs)
    (RV : Nat → Value) (hRV : ∀ ad, A = some ad → ∀ j, j < rs.length → w0.cell? ⟨(ad.add (j * 4)).block, (ad.add (j * 4)).off + 3, none⟩ = some (RV j))
    (J Jx : List (Fin rs.length) → World → Prop)
    (hY : ∀ pre x W, J pre W → pre.length < rs.length → YieldAt F (n - 1) Try.prog l #[.int .i64 (x.1 : Int), ruleV (rd_T50 rs (x.1 : Int)) (RV x.1)] W fun e W' =>
      (e = .returned (.bool true) ∧ J (pre ++ [x]) W' ∧ KpB n₀ Bs W W') ∨ (e = .returned (.bool false) ∧ Jx (pre ++ [x]) W'))
    (W : World) (hW : Below n₀ w0 W) (hBs : W.cell? ⟨Bs, 0, none⟩ = some (.slice A rs.length c)) (h0 : J [] W) :
    CallsIn F n Try.prog 44 #[.func (.yield l) #[] #[], .pointer (some ⟨Bs, 0, none⟩)] W fun e W' => (∃ v, e = .returned v) ∧
      ((∃ ys, ys = backs rs.length ∧ J ys W') ∨ (∃ pre, (∃ k, k ≤ rs.length ∧ pre = (backs rs.length).take k) ∧ Jx pre W')) := by
  have hmax := Kd.C_max hC
  refine callsIn_of_wp Try.func44 rfl hF ?_ hro
  simp only [Try.ntmps44, List.size_toArray, List.length_cons, List.length_nil, Nat.reduceAdd, Nat.reduceSub, Array.replicate_succ, Array.replicate_zero, List.push_toArray, List.append_toArray, List.nil_append, List.cons_append]
  gi_wp2
  gi_loopw [3] (fun i wr => ∃ k : Nat, k ≤ rs.length ∧ i = .int .i64 ((rs.length : Int) - 1 - k) ∧ J ((backs rs.length).take k) wr ∧ KpB n₀ Bs W wr)
    (fun i _ => (intOf i + 1).toNat)
  case atStart => exact ⟨0, Nat.zero_le _, by simp, by simpa using h0, Below.refl _ _, rfl⟩
  case round =>
    obtain ⟨k, hk, rfl, hJs, hnx⟩ := hrel
    have hbs : wr.cell? ⟨Bs, 0, none⟩ = some (.slice A rs.length c) := by
      have e : wr.heap[Bs]? = W.heap[Bs]? := hnx.2
      rw [← hBs]
      simp only [World.cell?, e]
    by_cases hlt : k < rs.length
    · obtain ⟨j, hj⟩ : ∃ j : Nat, j = rs.length - 1 - k := ⟨_, rfl⟩
      have hjl : j < rs.length := by omega
      have ej : ((rs.length : Int) - 1 - (k : Int)) = (j : Int) := by omega
      rw [ej]
      have hjl' : (j : Int) < (rs.length : Int) := by omega
      obtain ⟨ad, A3, c3, hAd, hx0, hx1, hx2, hx3, _, _⟩ := at_T50 hC (j : Int) (by omega) hjl'
      simp only [Int.toNat_natCast] at hx0 hx1 hx2 hx3
      have hrv : RV j = .slice A3 (rd_T50 rs (j : Int)).f1.f2.length c3 := by
        have := hRV ad hAd j hjl
        rw [hx3] at this
        exact (Option.some.inj this).symm
      have hB : Below w0.heap.size w0 wr := by rw [h0n]; exact hW.trans hnx.1
      have hy0 := pw_cell_below hB hx0
      have hy1 := pw_cell_below hB hx1
      have hy2 := pw_cell_below hB hx2
      have hy3 := pw_cell_below hB hx3
      obtain ⟨fn, tmps, assign, body, hy, hR⟩ := hY _ ⟨j, hjl⟩ wr hJs (by rw [List.length_take, backs_length]; omega)
      dsimp only at hy hR
      rw [hrv] at hy
      subst hAd
      have hge : (0 : Int) ≤ (j : Int) := by omega
      have HJ := Aside0.mk hj
      have HKL := Aside0.mk hlt
      clear hx0 hx1 hx2 hx3 hRV hj ej
      gi_wp2
      refine hR.mono ?_
      rintro e W3 (⟨rfl, hJ3, hk3⟩ | ⟨rfl, hJx3⟩)
      · gi_wp2
        go_roundw
        case rel =>
          have e1 : (⟨j, hjl⟩ : Fin rs.length) = ⟨rs.length - 1 - k, by have := HKL.out; omega⟩ := Fin.ext HJ.out
          refine ⟨k + 1, by have := HKL.out; omega, ?_, by rw [backs_take _ HKL.out, ← e1]; exact hJ3, hnx.trans hk3⟩
          have := HJ.out
          have := HKL.out
          congr 1
          omega
        case measure => have := HJ.out; simp [intOf] <;> omega
      · gi_wp2
        refine bodyPost_ret (results_none rfl _ _ _) rfl ?_
        have e1 : (⟨j, hjl⟩ : Fin rs.length) = ⟨rs.length - 1 - k, by have := HKL.out; omega⟩ := Fin.ext HJ.out
        exact ⟨⟨_, rfl⟩, .inr ⟨_, ⟨k + 1, by have := HKL.out; omega, rfl⟩, by rw [backs_take _ HKL.out, ← e1]; exact hJx3⟩⟩
    · obtain rfl : k = rs.length := by omega
      gi_wp2
      go_end0
      refine ⟨⟨_, rfl⟩, .inl ⟨_, rfl, ?_⟩⟩
      rwa [List.take_of_length_le (by rw [backs_length]; exact Nat.le_refl _)] at hJs
set_option maxRecDepth 100000 in
set_option maxHeartbeats 1000000 in
theorem Backward_in (F : Fence) (n : Nat) (hF : F.fn 30) (hro : F.round = none) (a : Option Addr) (len cap : Nat) (w : World) :
    CallsIn F n Try.prog 30 #[.slice a len cap] w fun e w' => e = .returned (.func (.func 44) #[] #[.pointer (some ⟨w.heap.size, 0, none⟩)]) ∧ w' = w.alloc (.cells #[.slice a len cap] 23) := by
  have hmf : ∀ (fn : Fn) (first cap : Array Value) (w : World), (Instr.makeFunc fn first cap).run Try.prog w = .ok (.func fn first cap) w := fun _ _ _ _ => rfl
  refine callsIn_of_wp Try.func30 rfl hF ?_ hro
  simp only [Try.ntmps30, List.size_toArray, List.length_cons, List.length_nil, Nat.reduceAdd, Nat.reduceSub, Array.replicate_succ, Array.replicate_zero, List.push_toArray, List.append_toArray, List.nil_append, List.cons_append]
  gi_wp2
  go_ret
  exact ⟨rfl, rfl⟩
theorem back_stops (F : Fence) (n : Nat) (hF : F.fn 44) (hro : F.round = none) (hn : 1 ≤ n) (Bs : Nat) (A : Option Addr) (c : Nat) (rs : List S50) (w0 w1 : World) (hC : k50.C w0 A rs.length rs)
    (RV : Nat → Value) (hRV : ∀ ad, A = some ad → ∀ j, j < rs.length → w0.cell? ⟨(ad.add (j * 4)).block, (ad.add (j * 4)).off + 3, none⟩ = some (RV j))
    (hB : Below w0.heap.size w0 w1) (hBs : Bs < w1.heap.size) (hc : w1.cell? ⟨Bs, 0, none⟩ = some (.slice A rs.length c)) :
    SeqStopsK F n Try.prog 44 #[.pointer (some ⟨Bs, 0, none⟩)] (fun x : Fin rs.length => #[.int .i64 (x.1 : Int), ruleV (rd_T50 rs (x.1 : Int)) (RV x.1)]) (KpB w0.heap.size Bs)
      (fun ys => ys = backs rs.length) (fun pre => ∃ k, k ≤ rs.length ∧ pre = (backs rs.length).take k) rs.length w1 := fun l J Jx W hW _ _ hY h0 =>
  back_in F n hF hro hn l Bs w0.heap.size A c rs w0 rfl hC RV hRV J Jx hY W (hB.trans (hW.mono hB.size)) ((hW.cell (p := ⟨Bs, 0, none⟩) hBs).trans hc) h0
abbrev kidsV (rs : List S50) (SA : Nat → Option Addr × Nat) (j : Nat) : Value := .slice (SA j).1 (rd_T50 rs (j : Int)).f1.f2.length (SA j).2
/-- Where the rules' bodies have their kids. -/
theorem kids_at {w : World} {A : Option Addr} {rs : List S50} (hC : k50.C w A rs.length rs) : ∃ SA : Nat → Option Addr × Nat, ∀ ad, A = some ad → ∀ j, j < rs.length → w.cell? ⟨(ad.add (j * 4)).block, (ad.add (j * 4)).off + 3, none⟩ = some (kidsV rs SA j) := by
  have h : ∀ j : Nat, ∃ v : Option Addr × Nat, ∀ ad, A = some ad → j < rs.length → w.cell? ⟨(ad.add (j * 4)).block, (ad.add (j * 4)).off + 3, none⟩ = some (.slice v.1 (rd_T50 rs (j : Int)).f1.f2.length v.2) := by
    intro j
    by_cases hj : j < rs.length
    · obtain ⟨ad, A3, c3, hAd, _, _, _, hx3, _, _⟩ := at_T50 hC (j : Int) (by omega) (by omega)
      simp only [Int.toNat_natCast] at hx3
      refine ⟨(A3, c3), fun ad' e _ => ?_⟩
      rw [hAd] at e
      cases e
      exact hx3
    · exact ⟨(none, 0), fun _ _ h => absurd h hj⟩
  obtain ⟨SA, hSA⟩ := Classical.axiomOfChoice h
  exact ⟨SA, fun ad e j hj => hSA j ad e hj⟩
def upds (rs : List S50) (pre : List (Fin rs.length)) : List UInt8 → Option Int := pre.foldl (fun f j => upd f (rd_T50 rs (j.1 : Int)).f0.data.toList (some (j.1 : Int))) (fun _ => none)
theorem upds_snoc (rs : List S50) (pre : List (Fin rs.length)) (j : Fin rs.length) : upds rs (pre ++ [j]) = upd (upds rs pre) (rd_T50 rs (j.1 : Int)).f0.data.toList (some (j.1 : Int)) := by simp [upds]
set_option maxRecDepth 100000 in
set_option maxHeartbeats 4000000 in
theorem firsts_calls (st : ByteArray) (A : Option Addr) (c : Nat) (rs : List S50) (w : World) (hC : k50.C w A rs.length rs) (hn : rs.length ≤ 1000000) (ht : ∀ x ∈ rs, x.f0.size ≤ 1000000) :
    Calls Try.prog 19 #[.agg #[.string st, .slice A rs.length c]] w fun e w' => ∃ b, e = .returned (.map (some b)) ∧ w.heap.size ≤ b ∧ MapI w' b rs.length (upds rs (backs rs.length)) ∧ Below w.heap.size w w' := by
  obtain ⟨SA, hSA⟩ := kids_at hC
  have hmm := @run_makeMap Try.prog
  refine (callsIn_wide (n := 3)).1 ?_
  refine callsIn_of_wp_marks Try.func19 rfl trivial ?_ rfl
  simp only [Try.ntmps19, List.size_toArray, List.length_cons, List.length_nil, Nat.reduceAdd, Nat.reduceSub, Array.replicate_succ, Array.replicate_zero, List.push_toArray, List.append_toArray, List.nil_append, List.cons_append]
  gi_wp2
  refine ⟨trivial, (Backward_in Fence.wide 2 trivial rfl _ _ _ _).mono ?_⟩
  rintro e w' ⟨rfl, rfl⟩
  gi_wp2
  have hm0 := (MapI.made (w.alloc (.cells #[.string st, .slice A rs.length c] 25)))
  have bS := Boxed.new ((w.alloc (.cells #[.string st, .slice A rs.length c] 25)).alloc (.map #[] 0)) 60 (.map (some (w.heap.size + 1)))
  have bN := Boxed.new (((w.alloc (.cells #[.string st, .slice A rs.length c] 25)).alloc (.map #[] 0)).alloc (.cells #[.map (some (w.heap.size + 1))] 60)) 23 (.slice A rs.length c)
  simp only [World.size_alloc] at bS bN hm0
  have hB0 : Below w.heap.size w ((((w.alloc (.cells #[.string st, .slice A rs.length c] 25)).alloc (.map #[] 0)).alloc (.cells #[.map (some (w.heap.size + 1))] 60)).alloc (.cells #[.slice A rs.length c] 23)) :=
    ((((Below.refl _ w).alloc (Nat.le_refl _) _).alloc (by simp) _).alloc (by simp; omega) _).alloc (by simp; omega) _
  have hsz : ((((w.alloc (.cells #[.string st, .slice A rs.length c] 25)).alloc (.map #[] 0)).alloc (.cells #[.map (some (w.heap.size + 1))] 60)).alloc (.cells #[.slice A rs.length c] 23)).heap.size = w.heap.size + 4 := by simp
  have hm1 : MapI ((((w.alloc (.cells #[.string st, .slice A rs.length c] 25)).alloc (.map #[] 0)).alloc (.cells #[.map (some (w.heap.size + 1))] 60)).alloc (.cells #[.slice A rs.length c] 23)) (w.heap.size + 1) 0 (fun _ => none) :=
    (hm0.kept (World.grownBy_alloc _ _ none) (by simp)).kept (World.grownBy_alloc _ _ none) (by simp)
  have bS1 := bS.alloc (.cells #[.slice A rs.length c] 23)
  generalize ((((w.alloc (.cells #[.string st, .slice A rs.length c] 25)).alloc (.map #[] 0)).alloc (.cells #[.map (some (w.heap.size + 1))] 60)).alloc (.cells #[.slice A rs.length c] 23)) = W0 at *
  have bN1 : W0.cell? ⟨w.heap.size + 1 + 1 + 1, 0, none⟩ = some (.slice A rs.length c) := bN.cell
  have hs : ∀ j : Nat, j < rs.length → (rd_T50 rs (j : Int)).f0.size ≤ 1000000 := by
    intro j hj
    have e : rd_T50 rs (j : Int) = rs[j] := by simp [rd_T50, hj]
    rw [e]
    exact ht _ (List.getElem_mem hj)
  refine wpIn_rangeFunc_ownH rfl (by decide) (gf := 44) (lb := #[.pointer (some ⟨w.heap.size + 1 + 1 + 1, 0, none⟩)]) rfl trivial (enters_of Try.func44 (by kernel_rfl) rfl)
    (back_stops Fence.wide 2 trivial rfl (by decide) (w.heap.size + 1 + 1 + 1) A c rs w W0 hC (kidsV rs SA) hSA hB0 (by omega) bN1) KpB.trans
    (fun W l o o' hl h h1 h2 => ⟨belowK_b (n₀ := w.heap.size) (by omega) W l o o' hl h h1 h2, (grownBy_putObj' W l o').block _ (by have := (Array.getElem?_eq_some_iff.1 h).1; omega) (fun e => by have := Option.some.inj e; omega)⟩) (Below.refl _ _) (fun _ => rfl)
    (fun pre W => ((Boxed W (w.heap.size + 1 + 1) 60 (.map (some (w.heap.size + 1))) ∧ MapI W (w.heap.size + 1) pre.length (upds rs pre)) ∧ w.heap.size + 4 ≤ W.heap.size) ∧ Below w.heap.size w W)
    (fun _ _ _ => False)
    (OwnFrom.and (OwnFrom.and (OwnFrom.and (Own.from (boxed_own _ _ _) _) (fun s X Y row hs hg hr => hs.kept hg (fun e => by have := (hr _ e.symm).1; omega))) (fun s X Y row hs hg hr => Nat.le_trans hs hg.size)) (ownFrom_below (Nat.le_refl _) (by omega)))
    (fun _ _ _ _ _ hs _ _ => hs)
    ⟨⟨⟨bS1, hm1⟩, by omega⟩, hB0⟩
    (fun x a' W => ∃ Bx, w.heap.size + 3 < Bx ∧ W.heap[Bx]? = some (.cells #[.string (rd_T50 rs (x.1 : Int)).f0, .int .i64 (rd_T50 rs (x.1 : Int)).f1.f0, .string (rd_T50 rs (x.1 : Int)).f1.f1, kidsV rs SA x.1] 50 (0, 0)) ∧
      a' = { tmps := #[.agg #[.string st, .slice A rs.length c], .pointer (some ⟨w.heap.size, 0, none⟩), .map none, .pointer (some ⟨w.heap.size + 1 + 1, 0, none⟩), .int .i64 (x.1 : Int), .pointer (some ⟨Bx, 0, none⟩), .map (some (w.heap.size + 1)), .pointer (some ⟨w.heap.size, 1, none⟩), .slice A rs.length c,
        .func (.func 44) #[] #[.pointer (some ⟨w.heap.size + 1 + 1 + 1, 0, none⟩)], .int .i64 (x.1 : Int), ruleV (rd_T50 rs (x.1 : Int)) (kidsV rs SA x.1), undef, undef, undef, undef, undef], defers := [] })
    (fun x a' _ X Y row hs hg hr => by
      obtain ⟨Bx, h1, h2, h3⟩ := hs
      exact ⟨Bx, h1, (hg.block Bx (Array.getElem?_eq_some_iff.1 h2).1 (fun e => by obtain ⟨o, ho, hc⟩ := (hr _ e.symm).2; rw [h2] at ho; cases ho; cases hc)).trans h2, h3⟩)
    ?assign ?body ?done ?stop
  case assign =>
    rintro l pre x W K ⟨⟨⟨b1, m1⟩, s1⟩, B1⟩ hK
    gi_wp2
    exact hK _ _ ((KeepsOthers.alloc _ _).from _) ⟨(Below.refl _ W).alloc B1.size _, Below.heap_alloc W _ _ (by omega)⟩ ⟨⟨⟨b1.alloc _, m1.kept (World.grownBy_alloc _ _ none) (by simp)⟩, by simp; omega⟩, B1.alloc B1.size _⟩ ⟨W.heap.size, by omega, World.alloc_heap_new W _, rfl⟩
  case body =>
    rintro l pre x a' W hl ⟨r, hr⟩ ⟨⟨⟨b1, m1⟩, s1⟩, B1⟩ ⟨Bx, hBx, bX, rfl⟩ hlt
    have cS := b1.cell
    have cX : W.cell? ⟨Bx, 0, none⟩ = some (.string (rd_T50 rs (x.1 : Int)).f0) := (blk_cell bX 0).trans rfl
    obtain ⟨w', hrun, hm', hg⟩ := m1.store (T := 60) Try.underlying60 (by unfold maxLen; omega) (s := (rd_T50 rs (x.1 : Int)).f0) (by have := hs x.1 x.2; unfold maxLen; omega) (c := (x.1 : Int)) (WalkArith.wf_i64 (by have := x.2; omega))
    gi_wp2
    have hM : ∀ k, (some (w.heap.size + 1) : Option Nat) = some k → w.heap.size ≤ k := fun k e => by have := Option.some.inj e; omega
    refine ⟨KeepsFrom.of_grownBy hg (fun j e => by have := Option.some.inj e; omega), ⟨(Below.refl _ W).grown hg B1.size hM, hg.block _ (by omega) (fun e => by have := Option.some.inj e; omega)⟩, ⟨⟨b1.kept hg (fun e => by have := Option.some.inj e; omega), ?_⟩, Nat.le_trans s1 hg.size⟩, B1.grown hg B1.size hM⟩
    rw [upds_snoc, List.length_append]
    exact hm'
  case done =>
    rintro D ys W hD rfl ⟨⟨⟨b1, m1⟩, s1⟩, B1⟩ hK
    have cS := b1.cell
    gi_wp2
    refine ⟨by simp, .inl ⟨_, _, rfl, run_takeDeferred hK, ?_⟩⟩
    refine ⟨_, results_tmp rfl _ _ _, w.heap.size + 1, rfl, by omega, ?_, B1.trans (belowK_b (w := w) (Nat.le_refl _) W D _ _ (by omega) hK rfl rfl)⟩
    rw [backs_length] at m1
    exact m1.kept (grownBy_putObj' W D _) (fun e => by have := Option.some.inj e; omega)
  case stop =>
    rintro D c' pre W _ _ h _
    exact h.elim
end Go.Proofs.Ytdbkooliafkcgaa.Yw
