/- A row of bytes out of a constant text, that is marked behind its end, and an append onto it. -/
import Derived.Test.YtgllncnfhiiobaaPx0
import Derived.Test.YtgllncnfhiiobaaSynExt
import Derived.Lib.SlBytesConst
import Derived.Laws.BitsLemmas
set_option linter.unusedVariables false
namespace Go.Proofs.Ytgllncnfhiiobaa.Lw
open Go.RowKit Go.Proofs.YtgllncnfhiiobaaW.PrintWords Go.Proofs.YtgllncnfhiiobaaW.PrintLast Go.Proofs.YtgllncnfhiiobaaW.PrintMore

/-- v is a full row of the call's own that holds xs, with the mark behind its last cell. -/
def Marked (e : Nat) (w : World) (base : Nat) (v : Value) (xs : List Int) : Prop :=
  ∃ g cs, v = .slice (some ⟨g, 0, none⟩) xs.length xs.length ∧ base ≤ g ∧ w.heap[g]? = some (.cells cs e (xs.length, xs.length + 1)) ∧ cs.toList = nums .u8 xs
/-- The call's own, or marked: at the head of a loop alone. -/
def OwnM (e : Nat) (w : World) (base : Nat) (v : Value) (xs : List Int) (i : Int) : Prop :=
  (Kd.int .u8).R e w base (fun _ => True) v xs ∨ (i = 0 ∧ Marked e w base v xs)

theorem marked_new {e base : Nat} {W : World} (xs : List Int) (cs : Array Value) (n m : Nat) (hc : cs.toList = nums .u8 xs) (hb : base ≤ W.heap.size) (hn : n = xs.length) (hm : m = xs.length + 1) :
    Marked e (W.alloc (.cells cs e (n, m))) base (.slice (some ⟨W.heap.size, 0, none⟩) n n) xs := by
  subst hn hm
  exact ⟨_, cs, rfl, hb, heap_alloc_new W _, hc⟩

section
variable {P : Program} {ops : Array Oper} {rest : List Oper} {o : Oper} {a : Act} {Q : Exit → Act → World → Prop}
theorem run_append_marked {t u ty e : TypeId} {i : TypeInfo} {w : World} {base : Nat} (ht : P.underlying t = some (.slice e)) (hu : P.underlying u = some .string) (hi : P.info? e = some i) (hz : i.zero = some (.int .u8 0)) (hsize : i.size = 1) (hby : i.bytes = 1)
    {v : Value} {xs : List Int} (HM : Marked e w base v xs) (s : ByteArray) (hs : 0 < s.size) (hbytes : xs.length + s.size ≤ 140737488355328) (hbase : base ≤ w.heap.size) :
    ∃ v' w', (Builtin.append_ #[t, u] ty #[v, .string s]).run P w = .ok v' w' ∧ w'.ownsRow base e 1 v' (xs.length + s.size) (nums .u8 xs ++ Lib.strCells s) ∧ w.grownBy w' none := by
  obtain ⟨g, cs, rfl, hbg, hg, hcs⟩ := HM
  have h63 : xs.length + s.size ≤ maxLen := by simp only [maxLen]; omega
  have hxl : (nums .u8 xs).length = xs.length := by simp [nums]
  have hlen : (nums .u8 xs ++ Lib.strCells s).length = (xs.length + s.size) * 1 := by rw [List.length_append, hxl, Lib.strCells_length, Nat.mul_one]
  have holds : ∀ j u, (nums .u8 xs)[j]? = some u → w.cell? ((⟨g, 0, none⟩ : Addr).add j) = some u := by
    intro j u hj
    rw [Addr.add_lit]
    rw [← hcs] at hj
    simpa [World.cell?, hg] using hj
  have hr := Lib.run_append_grow_string (P := P) w t u ty e i (.int .u8 0) ht hu hi hz ⟨g, 0, none⟩ xs.length xs.length (nums .u8 xs) (by rw [hsize, hxl, Nat.mul_one]) holds s (by omega) (by simp only [maxLen] at h63; omega) (by rw [hby]; exact growslice_fits (by omega) (by omega))
  have hge := grownCap_ge w (xs.length + s.size) xs.length e
  have hcm2 : grownCap w (xs.length + s.size) xs.length e ≤ maxLen := grownCap_le_maxLen w (xs.length + s.size) xs.length e h63
  refine ⟨_, _, hr, ⟨hlen, .inr ⟨w.heap.size, _, _, rfl, hbase, heap_alloc_new w.drew _, hge, hcm2, ?_, ?_⟩⟩, ⟨rfl, rfl, rfl, by simp, fun k hk _ => heap_alloc_old w.drew _ hk⟩⟩
  · have hz1 : (Value.int IntKind.u8 0).cells.size = 1 := rfl
    simp only [Array.size_append, List.size_toArray, size_zeroCells, hz1, hxl, Lib.strCells_length]
    omega
  · simp only [Array.toList_append, List.append_assoc]
    rw [← List.append_assoc, ← hlen]
    exact List.take_left

theorem print_append_strM {w0 W : World} (base : Nat) (hgd : o.guard = none) (s x : Operand) (t u e : TypeId)
    (ho : o.op = .call { callee := .builtin .append, args := #[s, x], argTypes := #[t, u] })
    (ht : P.underlying t = some (.slice e)) (hu : P.underlying u = some .string) (hinfo : (P.info? e).map (fun i => (i.zero, i.size, i.bytes)) = some (some (.int .u8 0), 1, 1))
    (v : Value) (xs : List Int) (y : ByteArray) (hs : a.eval s = v) (hx : a.eval x = .string y) (hy : 0 < y.size) (i : Int)
    (HO : OwnM e W base v xs i) (HB : Below base w0 W) (hbase : base ≤ W.heap.size) (hl : xs.length + y.size ≤ 140737488355328)
    (h : ∀ v1 w1, w1.ownsRow base e 1 v1 (xs ++ bytesOf y).length (nums .u8 (xs ++ bytesOf y)) → Below base w0 w1 → wpList P ops Q rest (a.put o.dst v1) w1) :
    wpList P ops Q (o :: rest) a W := by
  rcases HO with HO | ⟨-, HM⟩
  · exact print_append_str base hgd s x t u e ho ht hu hinfo v xs y hs hx (Kd.own_of_R HO) HB hbase hl (fun v1 w1 h1 h2 _ => h v1 w1 h1 h2)
  obtain ⟨i0, hi, hzz⟩ := Option.map_eq_some_iff.1 hinfo
  simp only [Prod.mk.injEq] at hzz
  obtain ⟨hz0, hz1, hz2⟩ := hzz
  obtain ⟨v', w', hr, hown, hg⟩ := run_append_marked (ty := o.type) ht hu hi hz0 hz1 hz2 HM y hy hl hbase
  have hl2 : (xs ++ bytesOf y).length = xs.length + y.size := by rw [List.length_append, bytesOf_length]
  have hc : nums .u8 (xs ++ bytesOf y) = nums .u8 xs ++ Lib.strCells y := by
    rw [nums_append]
    congr 1
    simp [nums, bytesOf, Lib.strCells]
  refine wpList_plain hgd fun K hK => ?_
  unfold Oper.wp execOp
  simp only [ho, resolve, invoke, builtin, Sem.run_bind, Sem.run_pure, Result.andThen_ok, List.map_toArray, List.map_cons, List.map_nil, hs, hx, hr]
  exact hK _ _ (h v' w' (by rw [hl2, hc]; exact hown) (HB.grown hg hbase (by intro k hk; cases hk)))
end
theorem and7 (n : Int) : bits .and .i64 n 7 = n % 8 := by
  have h7 : (BitVec.ofInt 64 7).toNat = 2 ^ 3 - 1 := by decide
  have key : (BitVec.ofInt 64 n &&& BitVec.ofInt 64 7).toNat = (n % ((2 ^ 64 : Nat) : Int)).toNat % 2 ^ 3 := by
    rw [BitVec.toNat_and, BitVec.toNat_ofInt, h7, Nat.and_two_pow_sub_one_eq_mod]
  show IntKind.i64.wrap ((BitVec.ofInt 64 n &&& BitVec.ofInt 64 7).toNat : Nat) = n % 8
  rw [key, IntKind.wrap_i64]
  omega
theorem and15 (n : Int) : bits .and .i64 n 15 = n % 16 := by
  have h7 : (BitVec.ofInt 64 15).toNat = 2 ^ 4 - 1 := by decide
  have key : (BitVec.ofInt 64 n &&& BitVec.ofInt 64 15).toNat = (n % ((2 ^ 64 : Nat) : Int)).toNat % 2 ^ 4 := by
    rw [BitVec.toNat_and, BitVec.toNat_ofInt, h7, Nat.and_two_pow_sub_one_eq_mod]
  show IntKind.i64.wrap ((BitVec.ofInt 64 n &&& BitVec.ofInt 64 15).toNat : Nat) = n % 16
  rw [key, IntKind.wrap_i64]
  omega
theorem rounds_pos (n : Int) : 0 < wrap64 (wrap64 (4090 + bits .and .i64 n 15) - 3) := by
  rw [and15]
  unfold wrap64
  omega
end Go.Proofs.Ytgllncnfhiiobaa.Lw
