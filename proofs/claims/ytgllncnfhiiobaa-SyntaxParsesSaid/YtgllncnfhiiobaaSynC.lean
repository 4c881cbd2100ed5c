/- The walks of lex.Good and of what it calls. The walks of SameNode and Same. The walks of proper and Proper. -/
import Derived.Test.YtgllncnfhiiobaaSynA
set_option linter.unusedVariables false
set_option linter.unusedSimpArgs false
namespace Go.Proofs.Ytgllncnfhiiobaa.Sw
open Go.RowKit Go.Proofs.YtgllncnfhiiobaaW.PrintWords Go.Proofs.YtgllncnfhiiobaaW.PrintLast Go.Proofs.YtgllncnfhiiobaaW.PrintMore Go.Proofs.Ytgllncnfhiiobaa Go.Proofs.Ytgllncnfhiiobaa.P Go.Proofs.Ytgllncnfhiiobaa.Lw

theorem ret_bool {a b : Bool} (h : a = b) : Ending.returned (.bool a) = .returned (.bool b) := by rw [h]
set_option maxHeartbeats 4000000 in
theorem letter_calls (c : UInt8) (w : World) : Calls Try.prog 38 #[.int .u8 c.toNat] w fun e w' => e = .returned (.bool (Lx.letter c)) ∧ w = w' := by
  have hc := c.toNat_lt
  go_enter Try.func38, Try.ntmps38
  go_wp2
  all_goals
    go_ret
    refine ⟨ret_bool ?_, rfl⟩
    rw [Bool.eq_iff_iff]
    simp [Lx.letter]
    try omega
set_option maxHeartbeats 4000000 in
theorem inName_calls (c : UInt8) (w : World) : Calls Try.prog 39 #[.int .u8 c.toNat] w fun e w' => e = .returned (.bool (Lx.inName c)) ∧ w = w' := by
  have hc := c.toNat_lt
  cases hl : Lx.letter c
  · go_enter Try.func39, Try.ntmps39
    go_wp2_with (go_at_call 38; refine (letter_calls c _).mono ?_; rintro e w1 ⟨rfl, rfl⟩)
    all_goals
      go_ret
      refine ⟨ret_bool ?_, rfl⟩
      rw [Bool.eq_iff_iff]
      simp [Lx.inName, hl]
      try omega
  · go_enter Try.func39, Try.ntmps39
    go_wp2_with (go_at_call 38; refine (letter_calls c _).mono ?_; rintro e w1 ⟨rfl, rfl⟩)
    all_goals
      go_ret
      exact ⟨ret_bool (by simp [Lx.inName, hl]), rfl⟩
/-- May a nonterminal have the name? -/
def goodB (s : List UInt8) : Bool := match s with
  | [] => false
  | c :: cs => decide (cs.length < 32) && Lx.letter c && (c :: cs).all Lx.inName
set_option maxHeartbeats 4000000 in
theorem good_calls (s : ByteArray) (w : World) : Calls Try.prog 16 #[.string s] w fun e w' => e = .returned (.bool (goodB s.data.toList)) ∧ w = w' := by
  have hsl : s.data.toList.length = s.size := Array.length_toList
  by_cases h0 : s.size = 0
  · have hnil : s.data.toList = [] := List.eq_nil_of_length_eq_zero (by omega)
    have hs0 : s = ⟨#[]⟩ := by
      cases s with
      | mk d => congr 1; exact Array.ext' hnil
    subst hs0
    go_enter Try.func16, Try.ntmps16
    go_wp2
    go_ret
    exact ⟨rfl, rfl⟩
  · have hpos : 0 < s.size := by omega
    have hdat : ∀ (k : Nat) (h : k < s.size) (h2 : k < s.data.toList.length), s.data.toList[k] = s[k] := fun k h h2 => by simp [ByteArray.getElem_eq_getElem_data]
    have hcons : s.data.toList = s[0] :: s.data.toList.drop 1 := by
      have h1 : 0 < s.data.toList.length := by omega
      rw [← hdat 0 hpos h1]
      exact (List.drop_eq_getElem_cons h1 : s.data.toList.drop 0 = _)
    have hlt : (s.data.toList.drop 1).length + 1 = s.size := by simp; omega
    have hgood : goodB s.data.toList = (decide ((s.data.toList.drop 1).length < 32) && Lx.letter s[0] && s.data.toList.all Lx.inName) := by
      rw [hcons]
      rfl
    have HG := Aside0.mk hgood
    have e0 : s.toList = [] ↔ False := by
      constructor
      · intro h
        have : s.data.toList = [] := by rw [← ByteArray.toList_eq]; exact h
        rw [this] at hsl
        simp at hsl
        omega
      · intro h; exact h.elim
    have e1 : s.toList.isEmpty = false := by
      cases he : s.toList with
      | nil => exact absurd (e0.1 he) id
      | cons a b => rfl
    have E0 := Aside0.mk e0
    have HD := Aside0.mk hdat
    have HL := Aside0.mk hlt
    have HSL := Aside0.mk hsl
    clear hgood hdat hcons hsl e0
    by_cases hbig : 32 < (s.size : Int)
    · go_enter Try.func16, Try.ntmps16
      go_wp2_with (fail)
      go_ret
      refine ⟨ret_bool ?_, rfl⟩
      have := HL.out
      rw [HG.out, decide_eq_false (by omega)]
      rfl
    · have hsm : (s.size : Int) ≤ 32 := by omega
      cases hl : Lx.letter s[0]
      · go_enter Try.func16, Try.ntmps16
        go_wp2_with (go_at_call 38; refine (letter_calls _ _).mono ?_; rintro e w1 ⟨rfl, rfl⟩)
        go_ret
        refine ⟨ret_bool ?_, rfl⟩
        rw [HG.out, hl]
        simp
      · go_enter Try.func16, Try.ntmps16
        go_wp2_with (go_at_call 38; refine (letter_calls _ _).mono ?_; rintro e w1 ⟨rfl, rfl⟩)
        have HGG : Aside0 (goodB s.data.toList = s.data.toList.all Lx.inName) := ⟨by
          have := HL.out
          rw [HG.out, hl, decide_eq_true (by omega)]
          simp⟩
        go_loop [19] (fun t => ∃ k : Nat, k ≤ s.size ∧ t = .int .i64 k ∧ (s.data.toList.take k).all Lx.inName = true) (fun t => s.size - (intOf t).toNat)
        case atStart => exact ⟨0, Nat.zero_le _, rfl, rfl⟩
        case round =>
          obtain ⟨k, hk, rfl, hall⟩ := hrel
          have HA := Aside0.mk hall
          clear hall
          by_cases hlt : k < s.size
          · have hlt' : (k : Int) < (s.size : Int) := by omega
            have hsn : s.data.toList.take (k + 1) = s.data.toList.take k ++ [s[k]] := by
              have hk2 : k < s.data.toList.length := by have := HSL.out; omega
              rw [List.take_succ_eq_append_getElem hk2, HD.out k hlt hk2]
            have HSN := Aside0.mk hsn
            clear hsn
            cases hi : Lx.inName s[k]
            · go_wp2_with (go_at_call 39; refine (inName_calls _ _).mono ?_; rintro e w1 ⟨rfl, rfl⟩)
              go_ret
              refine ⟨ret_bool ?_, rfl⟩
              rw [HGG.out]
              symm
              rw [List.all_eq_false]
              refine ⟨s[k], ?_, by simp [hi]⟩
              have : s[k] ∈ s.data.toList.take (k + 1) := by rw [HSN.out]; simp
              exact List.mem_of_mem_take this
            · go_wp2_with (go_at_call 39; refine (inName_calls _ _).mono ?_; rintro e w1 ⟨rfl, rfl⟩)
              go_round
              case rel => exact ⟨k + 1, by omega, by go_num, by rw [HSN.out, List.all_append, HA.out]; simp [hi]⟩
              case measure => simp [intOf]; omega
          · have hge : (s.size : Int) ≤ k := by omega
            go_wp2_with (fail)
            go_ret
            refine ⟨ret_bool ?_, rfl⟩
            rw [HGG.out]
            have e : s.data.toList.take k = s.data.toList := List.take_of_length_le (by have := HSL.out; omega)
            rw [← e, HA.out]
end Go.Proofs.Ytgllncnfhiiobaa.Sw

set_option linter.unusedVariables false
set_option linter.unusedSimpArgs false
namespace Go.Proofs.Ytgllncnfhiiobaa.Sw
open Go.RowKit Go.Proofs.YtgllncnfhiiobaaW.PrintWords Go.Proofs.YtgllncnfhiiobaaW.PrintLast Go.Proofs.YtgllncnfhiiobaaW.PrintMore Go.Proofs.Ytgllncnfhiiobaa Go.Proofs.Ytgllncnfhiiobaa.P Go.Proofs.Ytgllncnfhiiobaa.Lw

mutual
/-- Are two nodes the same? -/
def sameN : S49 → S49 → Bool
  | ⟨k, t, l⟩, ⟨k', t', l'⟩ => k == k' && t.toList == t'.toList && sameL l l'
def sameL : List S49 → List S49 → Bool
  | [], [] => true
  | x :: xs, y :: ys => sameN x y && sameL xs ys
  | _, _ => false
end
theorem sameL_len : ∀ {l m : List S49}, sameL l m = true → l.length = m.length
  | [], [], _ => rfl
  | [], _ :: _, h => by simp [sameL] at h
  | _ :: _, [], h => by simp [sameL] at h
  | x :: xs, y :: ys, h => by
    simp only [sameL, Bool.and_eq_true] at h
    simp [sameL_len h.2]
theorem sameL_drop {l m : List S49} {k : Nat} (hl : k < l.length) (hm : k < m.length) : sameL (l.drop k) (m.drop k) = (sameN (rd_T49 l k) (rd_T49 m k) && sameL (l.drop (k + 1)) (m.drop (k + 1))) := by
  rw [List.drop_eq_getElem_cons hl, List.drop_eq_getElem_cons hm]
  simp [sameL, rd_T49, hl, hm]
/-- Two nodes of which one is small are compared. -/
def SameC (n : Nat) : Prop := ∀ (x y : S49) (A B : Option Addr) (c d : Nat) (w : World), SizeOf.sizeOf x < n → k49.C w A x.f2.length x.f2 → x.f2.length ≤ c → k49.C w B y.f2.length y.f2 → y.f2.length ≤ d →
  Calls Try.prog 14 #[.agg #[.int .i64 x.f0, .string x.f1, .slice A x.f2.length c], .agg #[.int .i64 y.f0, .string y.f1, .slice B y.f2.length d]] w fun e w' => e = .returned (.bool (sameN x y)) ∧ Below w.heap.size w w'
theorem size_mem {l : List S49} {k : Nat} (h : k < l.length) : SizeOf.sizeOf (rd_T49 l k) < SizeOf.sizeOf l := by
  unfold rd_T49
  simp only [Int.toNat_natCast, List.getD_eq_getElem?_getD, List.getElem?_eq_getElem h, Option.getD_some]
  exact List.sizeOf_lt_of_mem (List.getElem_mem h)
def EqR (w : World) (l m : List S49) (k : Nat) (v : Value) (wr : World) : Prop :=
  ∃ i : Nat, v = .int .i64 i ∧ i + k = l.length + 1 ∧ Below w.heap.size w wr ∧ sameL l m = sameL (l.drop i) (m.drop i)
set_option maxHeartbeats 4000000 in
set_option maxRecDepth 100000 in
theorem eqNodes_calls {n : Nat} (H : SameC n) (l m : List S49) (A B : Option Addr) (c d : Nat) (w : World) (hn : SizeOf.sizeOf l < n) (hA : k49.C w A l.length l) (hc : l.length ≤ c) (hB : k49.C w B m.length m) (hd : m.length ≤ d) :
    Calls Try.prog 36 #[.slice A l.length c, .slice B m.length d, .func (.func 14) #[] #[]] w fun e w' => e = .returned (.bool (sameL l m)) ∧ Below w.heap.size w w' := by
  have HH := Aside0.mk H
  have HA := Aside0.mk hA
  have HB := Aside0.mk hB
  have HN := Aside0.mk hn
  have hmax := Kd.C_max hA
  clear H hA hB hn
  by_cases hlen : l.length = m.length
  · have b0 : ((l.length : Int) != (m.length : Int)) = false := by rw [hlen]; simp
    have HL := Aside0.mk hlen
    clear hlen
    go_enter Try.func36, Try.ntmps36
    go_wp2_with (fail)
    go_loopg [17] (l.length + 1) (fun k s17 wr => EqR w l m k s17 wr)
    case atStart => exact ⟨0, rfl, by omega, Below.refl _ _, rfl⟩
    case round =>
      obtain ⟨i, rfl, hi, hb, he⟩ := hrel
      have KB := Aside0.mk hb
      have KE := Aside0.mk he
      clear hb he
      by_cases hlt : i < l.length
      · have hlt' : (i : Int) < (l.length : Int) := by omega
        have hltm : (i : Int) < (m.length : Int) := by have := HL.out; omega
        obtain ⟨ad, A2, c2, rfl, hx0, hx1, hx2, hxl, hxC⟩ := at_T49 (Kd.C_below HA.out KB.out) (i : Int) (by omega) hlt'
        obtain ⟨bd, B2, d2, rfl, hy0, hy1, hy2, hyl, hyC⟩ := at_T49 (Kd.C_below HB.out KB.out) (i : Int) (by omega) hltm
        simp only [Int.toNat_natCast] at hx0 hx1 hx2 hy0 hy1 hy2
        have HXC := Aside0.mk hxC
        have HXL := Aside0.mk hxl
        have HYC := Aside0.mk hyC
        have HYL := Aside0.mk hyl
        have HSM := Aside0.mk (size_mem hlt)
        have HS := Aside0.mk (sameL_drop (m := m) hlt (by have := HL.out; omega))
        have gy0 := fun o => cell_alc hy0 o
        have gy1 := fun o => cell_alc hy1 o
        have gy2 := fun o => cell_alc hy2 o
        clear hxC hxl hyC hyl
        go_wp2_with (fail)
        have BX : ∀ o1 o2, Below wr.heap.size wr ((wr.alloc o1).alloc o2) := fun o1 o2 => below_alloc (below_alloc (Below.refl _ _) o1) o2
        refine (HH.out (rd_T49 l i) (rd_T49 m i) A2 B2 c2 d2 _ (by have := HSM.out; have := HN.out; omega) (Kd.C_alloc (Kd.C_alloc HXC.out _) _) HXL.out (Kd.C_alloc (Kd.C_alloc HYC.out _) _) HYL.out).mono ?_
        cases hs : sameN (rd_T49 l i) (rd_T49 m i)
        · rintro e w5 ⟨rfl, hb⟩
          have hb5 := below_step KB.out (below_step (BX _ _) hb)
          have HB5 := Aside0.mk hb5
          have HSS := Aside0.mk hs
          clear hb hb5 hs BX
          go_wp2_with (fail)
          go_ret
          refine ⟨ret_bool ?_, HB5.out⟩
          rw [KE.out, HS.out, HSS.out]
          rfl
        · rintro e w5 ⟨rfl, hb⟩
          have hb5 := below_step KB.out (below_step (BX _ _) hb)
          have HB5 := Aside0.mk hb5
          have HSS := Aside0.mk hs
          clear hb hb5 hs BX
          go_wp2_with (fail)
          go_roundg (l.length - i)
          case measure => omega
          case rel => exact ⟨i + 1, by go_num, by omega, HB5.out, by rw [KE.out, HS.out, HSS.out, Bool.true_and]⟩
      · have hge : (l.length : Int) ≤ i := by omega
        go_wp2_with (fail)
        go_ret
        refine ⟨ret_bool ?_, KB.out⟩
        rw [KE.out, List.drop_eq_nil_of_le (by omega), List.drop_eq_nil_of_le (by have := HL.out; omega)]
        rfl
  · have b0 : ((l.length : Int) != (m.length : Int)) = true := bne_iff_ne.mpr (by omega)
    have HL := Aside0.mk hlen
    clear hlen
    go_enter Try.func36, Try.ntmps36
    go_wp2_with (fail)
    go_ret
    refine ⟨ret_bool ?_, Below.refl _ _⟩
    cases hs : sameL l m
    · rfl
    · exact absurd (sameL_len hs) HL.out
set_option maxHeartbeats 4000000 in
set_option maxRecDepth 100000 in
theorem sameNode_any : ∀ n, SameC n
  | 0 => fun _ _ _ _ _ _ _ h => absurd h (Nat.not_lt_zero _)
  | n + 1 => by
    intro x y A B c d w hn hA hc hB hd
    have HA := Aside0.mk hA
    have HB := Aside0.mk hB
    have HC := Aside0.mk hc
    have HD := Aside0.mk hd
    have IH := Aside0.mk (sameNode_any n)
    have hsz : SizeOf.sizeOf x.f2 < SizeOf.sizeOf x := by cases x; simp; omega
    have HSZ := Aside0.mk (Nat.lt_of_lt_of_le hsz (Nat.le_of_lt_succ hn))
    have hdef : sameN x y = (x.f0 == y.f0 && x.f1.toList == y.f1.toList && sameL x.f2 y.f2) := by cases x; cases y; rfl
    have HDEF := Aside0.mk hdef
    clear hA hB hc hd hn hsz hdef
    by_cases h0 : x.f0 = y.f0
    · have b0 : (x.f0 == y.f0) = true := beq_iff_eq.mpr h0
      have H0 := Aside0.mk h0
      clear h0
      cases h1 : x.f1.toList == y.f1.toList
      · have H1 := Aside0.mk h1
        go_enter Try.func14, Try.ntmps14
        go_wp2_with (fail)
        go_ret
        refine ⟨ret_bool ?_, below_alloc (below_alloc (Below.refl _ _) _) _⟩
        rw [HDEF.out, H1.out]
        simp
      · have H1 := Aside0.mk h1
        have B0 := Aside0.mk b0
        go_enter Try.func14, Try.ntmps14
        go_wp2_with (fail)
        refine (eqNodes_calls IH.out x.f2 y.f2 A B c d _ HSZ.out (Kd.C_alloc (Kd.C_alloc HA.out _) _) HC.out (Kd.C_alloc (Kd.C_alloc HB.out _) _) HD.out).mono ?_
        rintro e w5 ⟨rfl, hb⟩
        have HB5 := Aside0.mk (below_step (below_alloc (below_alloc (Below.refl _ _) _) _) hb)
        clear hb
        go_wp2_with (fail)
        go_ret
        refine ⟨ret_bool ?_, HB5.out⟩
        rw [HDEF.out, H1.out, B0.out]
        rfl
    · have b0 : (x.f0 == y.f0) = false := beq_eq_false_iff_ne.mpr h0
      have B0 := Aside0.mk b0
      clear h0
      go_enter Try.func14, Try.ntmps14
      go_wp2_with (fail)
      go_ret
      refine ⟨ret_bool ?_, below_alloc (below_alloc (Below.refl _ _) _) _⟩
      rw [HDEF.out, B0.out]
      rfl
theorem sameNode_calls (x y : S49) (A B : Option Addr) (c d : Nat) (w : World) (hA : k49.C w A x.f2.length x.f2) (hc : x.f2.length ≤ c) (hB : k49.C w B y.f2.length y.f2) (hd : y.f2.length ≤ d) :
    Calls Try.prog 14 #[.agg #[.int .i64 x.f0, .string x.f1, .slice A x.f2.length c], .agg #[.int .i64 y.f0, .string y.f1, .slice B y.f2.length d]] w fun e w' => e = .returned (.bool (sameN x y)) ∧ Below w.heap.size w w' :=
  sameNode_any _ x y A B c d w (Nat.lt_succ_self _) hA hc hB hd

/-- Are two rules the same? -/
def sameRule (x y : S51) : Bool := x.f0.toList == y.f0.toList && sameN x.f1 y.f1
def sameR : List S51 → List S51 → Bool
  | [], [] => true
  | x :: xs, y :: ys => sameRule x y && sameR xs ys
  | _, _ => false
theorem sameR_len : ∀ {l m : List S51}, sameR l m = true → l.length = m.length
  | [], [], _ => rfl
  | [], _ :: _, h => by simp [sameR] at h
  | _ :: _, [], h => by simp [sameR] at h
  | x :: xs, y :: ys, h => by
    simp only [sameR, Bool.and_eq_true] at h
    simp [sameR_len h.2]
theorem sameR_drop {l m : List S51} {k : Nat} (hl : k < l.length) (hm : k < m.length) : sameR (l.drop k) (m.drop k) = (sameRule (rd_T51 l k) (rd_T51 m k) && sameR (l.drop (k + 1)) (m.drop (k + 1))) := by
  rw [List.drop_eq_getElem_cons hl, List.drop_eq_getElem_cons hm]
  simp [sameR, rd_T51, hl, hm]
set_option maxHeartbeats 4000000 in
set_option maxRecDepth 100000 in
theorem sameRule_calls (x y : S51) (A B : Option Addr) (c d : Nat) (w : World) (hA : k49.C w A x.f1.f2.length x.f1.f2) (hc : x.f1.f2.length ≤ c) (hB : k49.C w B y.f1.f2.length y.f1.f2) (hd : y.f1.f2.length ≤ d) :
    Calls Try.prog 41 #[.agg #[.string x.f0, .int .i64 x.f1.f0, .string x.f1.f1, .slice A x.f1.f2.length c], .agg #[.string y.f0, .int .i64 y.f1.f0, .string y.f1.f1, .slice B y.f1.f2.length d]] w fun e w' => e = .returned (.bool (sameRule x y)) ∧ Below w.heap.size w w' := by
  have HA := Aside0.mk hA
  have HB := Aside0.mk hB
  have HC := Aside0.mk hc
  have HD := Aside0.mk hd
  have hdef : sameRule x y = (x.f0.toList == y.f0.toList && sameN x.f1 y.f1) := rfl
  have HDEF := Aside0.mk hdef
  clear hA hB hc hd hdef
  cases h1 : x.f0.toList == y.f0.toList
  · have H1 := Aside0.mk h1
    go_enter Try.func41, Try.ntmps41
    go_wp2_with (fail)
    go_ret
    refine ⟨ret_bool ?_, below_alloc (below_alloc (Below.refl _ _) _) _⟩
    rw [HDEF.out, H1.out]
    simp
  · have H1 := Aside0.mk h1
    go_enter Try.func41, Try.ntmps41
    go_wp2_with (fail)
    refine (sameNode_calls x.f1 y.f1 A B c d _ (Kd.C_alloc (Kd.C_alloc HA.out _) _) HC.out (Kd.C_alloc (Kd.C_alloc HB.out _) _) HD.out).mono ?_
    rintro e w5 ⟨rfl, hb⟩
    have HB5 := Aside0.mk (below_step (below_alloc (below_alloc (Below.refl _ _) _) _) hb)
    clear hb
    go_wp2_with (fail)
    go_ret
    refine ⟨ret_bool ?_, HB5.out⟩
    rw [HDEF.out, H1.out]
    rfl
def EqRR (w : World) (l m : List S51) (k : Nat) (v : Value) (wr : World) : Prop :=
  ∃ i : Nat, v = .int .i64 i ∧ i + k = l.length + 1 ∧ Below w.heap.size w wr ∧ sameR l m = sameR (l.drop i) (m.drop i)
set_option maxHeartbeats 4000000 in
set_option maxRecDepth 100000 in
theorem eqRules_calls (l m : List S51) (A B : Option Addr) (c d : Nat) (w : World) (hA : k51.C w A l.length l) (hc : l.length ≤ c) (hB : k51.C w B m.length m) (hd : m.length ≤ d) :
    Calls Try.prog 40 #[.slice A l.length c, .slice B m.length d, .func (.func 41) #[] #[]] w fun e w' => e = .returned (.bool (sameR l m)) ∧ Below w.heap.size w w' := by
  have HA := Aside0.mk hA
  have HB := Aside0.mk hB
  have hmax := Kd.C_max hA
  clear hA hB
  by_cases hlen : l.length = m.length
  · have b0 : ((l.length : Int) != (m.length : Int)) = false := by rw [hlen]; simp
    have HL := Aside0.mk hlen
    clear hlen
    go_enter Try.func40, Try.ntmps40
    go_wp2_with (fail)
    go_loopg [17] (l.length + 1) (fun k s17 wr => EqRR w l m k s17 wr)
    case atStart => exact ⟨0, rfl, by omega, Below.refl _ _, rfl⟩
    case round =>
      obtain ⟨i, rfl, hi, hb, he⟩ := hrel
      have KB := Aside0.mk hb
      have KE := Aside0.mk he
      clear hb he
      by_cases hlt : i < l.length
      · have hlt' : (i : Int) < (l.length : Int) := by omega
        have hltm : (i : Int) < (m.length : Int) := by have := HL.out; omega
        obtain ⟨ad, A2, c2, rfl, hx0, hx1, hx2, hx3, hxl, hxC⟩ := at_T51 (Kd.C_below HA.out KB.out) (i : Int) (by omega) hlt'
        obtain ⟨bd, B2, d2, rfl, hy0, hy1, hy2, hy3, hyl, hyC⟩ := at_T51 (Kd.C_below HB.out KB.out) (i : Int) (by omega) hltm
        simp only [Int.toNat_natCast] at hx0 hx1 hx2 hx3 hy0 hy1 hy2 hy3
        have HXC := Aside0.mk hxC
        have HXL := Aside0.mk hxl
        have HYC := Aside0.mk hyC
        have HYL := Aside0.mk hyl
        have HS := Aside0.mk (sameR_drop (m := m) hlt (by have := HL.out; omega))
        have gy0 := fun o => cell_alc hy0 o
        have gy1 := fun o => cell_alc hy1 o
        have gy2 := fun o => cell_alc hy2 o
        have gy3 := fun o => cell_alc hy3 o
        clear hxC hxl hyC hyl
        go_wp2_with (fail)
        have BX : ∀ o1 o2, Below wr.heap.size wr ((wr.alloc o1).alloc o2) := fun o1 o2 => below_alloc (below_alloc (Below.refl _ _) o1) o2
        refine (sameRule_calls (rd_T51 l i) (rd_T51 m i) A2 B2 c2 d2 _ (Kd.C_alloc (Kd.C_alloc HXC.out _) _) HXL.out (Kd.C_alloc (Kd.C_alloc HYC.out _) _) HYL.out).mono ?_
        cases hs : sameRule (rd_T51 l i) (rd_T51 m i)
        · rintro e w5 ⟨rfl, hb⟩
          have hb5 := below_step KB.out (below_step (BX _ _) hb)
          have HB5 := Aside0.mk hb5
          have HSS := Aside0.mk hs
          clear hb hb5 hs BX
          go_wp2_with (fail)
          go_ret
          refine ⟨ret_bool ?_, HB5.out⟩
          rw [KE.out, HS.out, HSS.out]
          rfl
        · rintro e w5 ⟨rfl, hb⟩
          have hb5 := below_step KB.out (below_step (BX _ _) hb)
          have HB5 := Aside0.mk hb5
          have HSS := Aside0.mk hs
          clear hb hb5 hs BX
          go_wp2_with (fail)
          go_roundg (l.length - i)
          case measure => omega
          case rel => exact ⟨i + 1, by go_num, by omega, HB5.out, by rw [KE.out, HS.out, HSS.out, Bool.true_and]⟩
      · have hge : (l.length : Int) ≤ i := by omega
        go_wp2_with (fail)
        go_ret
        refine ⟨ret_bool ?_, KB.out⟩
        rw [KE.out, List.drop_eq_nil_of_le (by omega), List.drop_eq_nil_of_le (by have := HL.out; omega)]
        rfl
  · have b0 : ((l.length : Int) != (m.length : Int)) = true := bne_iff_ne.mpr (by omega)
    have HL := Aside0.mk hlen
    clear hlen
    go_enter Try.func40, Try.ntmps40
    go_wp2_with (fail)
    go_ret
    refine ⟨ret_bool ?_, Below.refl _ _⟩
    cases hs : sameR l m
    · rfl
    · exact absurd (sameR_len hs) HL.out

set_option maxHeartbeats 4000000 in
set_option maxRecDepth 100000 in
theorem same_calls (x y : S25) (A B : Option Addr) (c d : Nat) (w : World) (hA : k51.C w A x.f1.length x.f1) (hc : x.f1.length ≤ c) (hB : k51.C w B y.f1.length y.f1) (hd : y.f1.length ≤ d) :
    Calls Try.prog 17 #[.agg #[.string x.f0, .slice A x.f1.length c], .agg #[.string y.f0, .slice B y.f1.length d]] w fun e w' => e = .returned (.bool (x.f0.toList == y.f0.toList && sameR x.f1 y.f1)) ∧ Below w.heap.size w w' := by
  have HA := Aside0.mk hA
  have HB := Aside0.mk hB
  have HC := Aside0.mk hc
  have HD := Aside0.mk hd
  clear hA hB hc hd
  cases h1 : x.f0.toList == y.f0.toList
  · have H1 := Aside0.mk h1
    go_enter Try.func17, Try.ntmps17
    go_wp2_with (fail)
    go_ret
    exact ⟨ret_bool (by simp), below_alloc (below_alloc (Below.refl _ _) _) _⟩
  · have H1 := Aside0.mk h1
    go_enter Try.func17, Try.ntmps17
    go_wp2_with (fail)
    refine (eqRules_calls x.f1 y.f1 A B c d _ (Kd.C_alloc (Kd.C_alloc HA.out _) _) HC.out (Kd.C_alloc (Kd.C_alloc HB.out _) _) HD.out).mono ?_
    rintro e w5 ⟨rfl, hb⟩
    have HB5 := Aside0.mk (below_step (below_alloc (below_alloc (Below.refl _ _) _) _) hb)
    clear hb
    go_wp2_with (fail)
    go_ret
    exact ⟨ret_bool (by simp), HB5.out⟩
end Go.Proofs.Ytgllncnfhiiobaa.Sw

set_option linter.unusedVariables false
set_option linter.unusedSimpArgs false
namespace Go.Proofs.Ytgllncnfhiiobaa.Sw
open Go.RowKit Go.Proofs.YtgllncnfhiiobaaW.PrintWords Go.Proofs.YtgllncnfhiiobaaW.PrintLast Go.Proofs.YtgllncnfhiiobaaW.PrintMore Go.Proofs.Ytgllncnfhiiobaa Go.Proofs.Ytgllncnfhiiobaa.P Go.Proofs.Ytgllncnfhiiobaa.Lw

theorem beq_zero (n : Nat) : ((n : Int) == 0) = (n == 0) := by rw [Bool.eq_iff_iff]; simp
/-- How many kids may a node of that kind have? -/
def kidsOk (k : Int) (n : Nat) : Bool :=
  if k = 3 then n != 1 else if k = 4 then decide (1 < n) else if k = 5 then n == 1 else if k = 6 then n == 1 else if k = 7 then n == 1 else false
mutual
/-- Can a node be in a text? -/
def propN : S49 → Bool
  | ⟨k, t, l⟩ => if k = 1 then goodB t.data.toList && (l.length == 0) else if k = 2 then !t.toList.isEmpty && decide (t.size ≤ 16) && (l.length == 0)
    else kidsOk k l.length && t.toList.isEmpty && propL l
def propL : List S49 → Bool
  | [] => true
  | x :: xs => propN x && propL xs
end
theorem propL_drop {l : List S49} {k : Nat} (hl : k < l.length) : propL (l.drop k) = (propN (rd_T49 l k) && propL (l.drop (k + 1))) := by
  rw [List.drop_eq_getElem_cons hl]
  simp [propL, rd_T49, hl]
def PropC (n : Nat) : Prop := ∀ (x : S49) (A : Option Addr) (c : Nat) (w : World), SizeOf.sizeOf x < n → k49.C w A x.f2.length x.f2 → x.f2.length ≤ c →
  Calls Try.prog 31 #[.agg #[.int .i64 x.f0, .string x.f1, .slice A x.f2.length c]] w fun e w' => e = .returned (.bool (propN x)) ∧ Below w.heap.size w w'
/-- Where the first is that is not proper. -/
def IdxPost (b : Bool) (w : World) (e : Ending) (w' : World) : Prop := (∃ i : Int, e = .returned (.int .i64 i) ∧ (if b then i = -1 else 0 ≤ i)) ∧ Below w.heap.size w w'
set_option maxHeartbeats 4000000 in
set_option maxRecDepth 100000 in
theorem notProper_calls {n : Nat} (H : PropC n) (x : S49) (A : Option Addr) (c : Nat) (w : World) (hn : SizeOf.sizeOf x < n) (hA : k49.C w A x.f2.length x.f2) (hc : x.f2.length ≤ c) :
    Calls Try.prog 56 #[.agg #[.int .i64 x.f0, .string x.f1, .slice A x.f2.length c]] w fun e w' => e = .returned (.bool (!propN x)) ∧ Below w.heap.size w w' := by
  have HH := Aside0.mk H
  have HA := Aside0.mk hA
  have HC := Aside0.mk hc
  have HN := Aside0.mk hn
  clear H hA hc hn
  go_enter Try.func56, Try.ntmps56
  go_wp2_with (fail)
  refine (HH.out x A c _ HN.out (Kd.C_alloc HA.out _) HC.out).mono ?_
  rintro e w1 ⟨rfl, hb⟩
  have HB := Aside0.mk (below_step (below_alloc (Below.refl _ _) _) hb)
  clear hb
  cases hp : propN x
  all_goals
    go_wp2_with (fail)
    go_ret
    exact ⟨ret_bool (by simp [hp]), HB.out⟩
def IdxR (w : World) (l : List S49) (k : Nat) (v : Value) (wr : World) : Prop :=
  ∃ i : Nat, v = .int .i64 i ∧ i + k = l.length + 1 ∧ Below w.heap.size w wr ∧ propL l = propL (l.drop i)
set_option maxHeartbeats 4000000 in
set_option maxRecDepth 100000 in
theorem index_calls {n : Nat} (H : PropC n) (l : List S49) (A : Option Addr) (c : Nat) (w : World) (hn : SizeOf.sizeOf l < n) (hA : k49.C w A l.length l) (hc : l.length ≤ c) :
    Calls Try.prog 64 #[.slice A l.length c, .func (.func 56) #[] #[]] w (IdxPost (propL l) w) := by
  have HH := Aside0.mk H
  have HA := Aside0.mk hA
  have HN := Aside0.mk hn
  have hmax := Kd.C_max hA
  clear H hA hn
  go_enter Try.func64, Try.ntmps64
  go_wp2_with (fail)
  go_loopg [8] (l.length + 1) (fun k s8 wr => IdxR w l k s8 wr)
  case atStart => exact ⟨0, rfl, by omega, Below.refl _ _, rfl⟩
  case round =>
    obtain ⟨i, rfl, hi, hb, he⟩ := hrel
    have KB := Aside0.mk hb
    have KE := Aside0.mk he
    clear hb he
    by_cases hlt : i < l.length
    · have hlt' : (i : Int) < (l.length : Int) := by omega
      obtain ⟨ad, A2, c2, rfl, hx0, hx1, hx2, hxl, hxC⟩ := at_T49 (Kd.C_below HA.out KB.out) (i : Int) (by omega) hlt'
      simp only [Int.toNat_natCast] at hx0 hx1 hx2
      have HXC := Aside0.mk hxC
      have HXL := Aside0.mk hxl
      have HSM := Aside0.mk (size_mem hlt)
      have HS := Aside0.mk (propL_drop hlt)
      clear hxC hxl
      go_wp2_with (fail)
      refine (notProper_calls HH.out (rd_T49 l i) A2 c2 _ (by have := HSM.out; have := HN.out; omega) HXC.out HXL.out).mono ?_
      cases hs : propN (rd_T49 l i)
      · rintro e w5 ⟨rfl, hb⟩
        have HB5 := Aside0.mk (below_step KB.out hb)
        have HSS := Aside0.mk hs
        clear hb hs
        go_wp2_with (fail)
        go_ret
        refine ⟨⟨_, rfl, ?_⟩, HB5.out⟩
        rw [KE.out, HS.out, HSS.out]
        simp
      · rintro e w5 ⟨rfl, hb⟩
        have HB5 := Aside0.mk (below_step KB.out hb)
        have HSS := Aside0.mk hs
        clear hb hs
        go_wp2_with (fail)
        go_roundg (l.length - i)
        case measure => omega
        case rel => exact ⟨i + 1, by go_num, by omega, HB5.out, by rw [KE.out, HS.out, HSS.out, Bool.true_and]⟩
    · have hge : (l.length : Int) ≤ i := by omega
      go_wp2_with (fail)
      go_ret
      refine ⟨⟨-1, rfl, ?_⟩, KB.out⟩
      rw [KE.out, List.drop_eq_nil_of_le (by omega)]
      rfl
set_option maxHeartbeats 4000000 in
set_option maxRecDepth 100000 in
theorem contains_calls {n : Nat} (H : PropC n) (l : List S49) (A : Option Addr) (c : Nat) (w : World) (hn : SizeOf.sizeOf l < n) (hA : k49.C w A l.length l) (hc : l.length ≤ c) :
    Calls Try.prog 55 #[.slice A l.length c, .func (.func 56) #[] #[]] w fun e w' => e = .returned (.bool (!propL l)) ∧ Below w.heap.size w w' := by
  have HI := Aside0.mk (index_calls H l A c w hn hA hc)
  clear H hA hn
  go_enter Try.func55, Try.ntmps55
  go_wp2_with (fail)
  refine HI.out.mono ?_
  rintro e w1 ⟨⟨i, rfl, hi⟩, hb⟩
  have HB := Aside0.mk hb
  clear hb
  cases hp : propL l
  · rw [hp] at hi
    have hi' : 0 ≤ i := by simpa using hi
    clear hi
    go_wp2_with (fail)
    go_ret
    exact ⟨ret_bool (by simp [hp, hi']), HB.out⟩
  · rw [hp] at hi
    have hi' : i = -1 := by simpa using hi
    subst hi'
    clear hi
    go_wp2_with (fail)
    go_ret
    exact ⟨ret_bool (by simp [hp]), HB.out⟩
set_option maxHeartbeats 4000000 in
set_option maxRecDepth 100000 in
theorem proper_deep {n : Nat} (IH_ : PropC n) (x : S49) (A : Option Addr) (c : Nat) (w : World) (hn : SizeOf.sizeOf x.f2 < n) (hA : k49.C w A x.f2.length x.f2) (hc : x.f2.length ≤ c) (h1 : x.f0 ≠ 1) (h2 : x.f0 ≠ 2) :
    Calls Try.prog 31 #[.agg #[.int .i64 x.f0, .string x.f1, .slice A x.f2.length c]] w fun e w' => e = .returned (.bool (kidsOk x.f0 x.f2.length && x.f1.toList.isEmpty && propL x.f2)) ∧ Below w.heap.size w w' := by
  have HCN := Aside0.mk (contains_calls IH_ x.f2 A c (w.alloc (.cells #[.int .i64 x.f0, .string x.f1, .slice A x.f2.length c] 49)) hn (Kd.C_alloc hA _) hc)
  have b1 : (x.f0 == 1) = false := beq_eq_false_iff_ne.mpr h1
  have b2 : (x.f0 == 2) = false := beq_eq_false_iff_ne.mpr h2
  clear IH_ hA hc hn h1 h2
  go_enter Try.func31, Try.ntmps31
  go_upto_block 1 with (fail)
  go_cut [3] (fun s3 wx => s3 = .bool (kidsOk x.f0 x.f2.length) ∧ wx = w.alloc (.cells #[.int .i64 x.f0, .string x.f1, .slice A x.f2.length c] 49))
  case first =>
    by_cases h3 : x.f0 = 3
    · have b3 : (x.f0 == 3) = true := beq_iff_eq.mpr h3
      have hk : kidsOk x.f0 x.f2.length = ((x.f2.length : Int) != 1) := by unfold kidsOk; rw [if_pos h3]; rw [Bool.eq_iff_iff]; simp; omega
      have HK := Aside0.mk hk
      clear h3 hk
      go_wp2_with (fail)
      go_meet
      case rel => exact ⟨by rw [HK.out], rfl⟩
    · have b3 : (x.f0 == 3) = false := beq_eq_false_iff_ne.mpr h3
      by_cases h4 : x.f0 = 4
      · have b4 : (x.f0 == 4) = true := beq_iff_eq.mpr h4
        have hk : kidsOk x.f0 x.f2.length = decide (1 < (x.f2.length : Int)) := by unfold kidsOk; rw [if_neg h3, if_pos h4]; rw [Bool.eq_iff_iff]; simp; omega
        have HK := Aside0.mk hk
        clear h3 h4 hk
        go_wp2_with (fail)
        all_goals
          go_meet
          case rel => exact ⟨by rw [HK.out], rfl⟩
      · have b4 : (x.f0 == 4) = false := beq_eq_false_iff_ne.mpr h4
        by_cases h5 : x.f0 = 5 ∨ x.f0 = 6 ∨ x.f0 = 7
        · have hk : kidsOk x.f0 x.f2.length = ((x.f2.length : Int) == 1) := by
            unfold kidsOk; rw [if_neg h3, if_neg h4, Bool.eq_iff_iff]
            repeat' split
            all_goals simp <;> omega
          have HK := Aside0.mk hk
          clear hk
          by_cases h5' : x.f0 = 5
          · have b5 : (x.f0 == 5) = true := beq_iff_eq.mpr h5'
            clear h3 h4 h5 h5'
            go_wp2_with (fail)
            go_meet
            case rel => exact ⟨by rw [HK.out], rfl⟩
          · have b5 : (x.f0 == 5) = false := beq_eq_false_iff_ne.mpr h5'
            by_cases h6' : x.f0 = 6
            · have b6 : (x.f0 == 6) = true := beq_iff_eq.mpr h6'
              clear h3 h4 h5 h5' h6'
              go_wp2_with (fail)
              go_meet
              case rel => exact ⟨by rw [HK.out], rfl⟩
            · have b6 : (x.f0 == 6) = false := beq_eq_false_iff_ne.mpr h6'
              have b7 : (x.f0 == 7) = true := beq_iff_eq.mpr (by omega)
              clear h3 h4 h5 h5' h6'
              go_wp2_with (fail)
              go_meet
              case rel => exact ⟨by rw [HK.out], rfl⟩
        · have b5 : (x.f0 == 5) = false := beq_eq_false_iff_ne.mpr (by omega)
          have b6 : (x.f0 == 6) = false := beq_eq_false_iff_ne.mpr (by omega)
          have b7 : (x.f0 == 7) = false := beq_eq_false_iff_ne.mpr (by omega)
          have hk : kidsOk x.f0 x.f2.length = false := by
            unfold kidsOk; rw [if_neg h3, if_neg h4, if_neg (by omega), if_neg (by omega), if_neg (by omega)]
          have HK := Aside0.mk hk
          clear h3 h4 h5 hk
          go_wp2_with (fail)
          go_meet
          case rel => exact ⟨by rw [HK.out], rfl⟩
  case rest =>
    obtain ⟨rfl, rfl⟩ := hcut
    cases hk : kidsOk x.f0 x.f2.length
    · go_wp2_with (fail)
      go_ret
      exact ⟨ret_bool (by simp [hk]), below_alloc (Below.refl _ _) _⟩
    · cases he : x.f1.toList.isEmpty
      · have he2 : x.f1.toList = [] ↔ False := ⟨fun h => (by rw [h] at he; cases he), fun h => h.elim⟩
        go_wp2_with (fail)
        go_ret
        exact ⟨ret_bool (by simp [hk, he2]), below_alloc (Below.refl _ _) _⟩
      · have he2 : x.f1.toList = [] := by simpa using he
        go_wp2_with (fail)
        refine HCN.out.mono ?_
        rintro e w1 ⟨rfl, hb⟩
        have HB := Aside0.mk (below_step (below_alloc (Below.refl _ _) _) hb)
        clear hb
        cases hp : propL x.f2
        all_goals
          go_wp2_with (fail)
          go_ret
          exact ⟨ret_bool (by simp [hp, hk, he2]), HB.out⟩
set_option maxHeartbeats 4000000 in
set_option maxRecDepth 100000 in
theorem proper_name (x : S49) (A : Option Addr) (c : Nat) (w : World) (h1 : x.f0 = 1) :
    Calls Try.prog 31 #[.agg #[.int .i64 x.f0, .string x.f1, .slice A x.f2.length c]] w fun e w' => e = .returned (.bool (goodB x.f1.data.toList && (x.f2.length == 0))) ∧ Below w.heap.size w w' := by
  have b1 : (x.f0 == 1) = true := beq_iff_eq.mpr h1
  clear h1
  go_enter Try.func31, Try.ntmps31
  go_wp2_with (fail)
  refine (good_calls _ _).mono ?_
  rintro e w1 ⟨rfl, rfl⟩
  cases hg : goodB x.f1.data.toList
  · go_wp2_with (fail)
    go_ret
    exact ⟨ret_bool (by simp [hg]), below_alloc (Below.refl _ _) _⟩
  · go_wp2_with (fail)
    go_ret
    exact ⟨ret_bool (by simp [hg, beq_zero]), below_alloc (Below.refl _ _) _⟩
set_option maxHeartbeats 4000000 in
set_option maxRecDepth 100000 in
theorem proper_lit (x : S49) (A : Option Addr) (c : Nat) (w : World) (h1 : x.f0 = 2) :
    Calls Try.prog 31 #[.agg #[.int .i64 x.f0, .string x.f1, .slice A x.f2.length c]] w fun e w' => e = .returned (.bool (!x.f1.toList.isEmpty && decide (x.f1.size ≤ 16) && (x.f2.length == 0))) ∧ Below w.heap.size w w' := by
  have b1 : (x.f0 == 1) = false := by rw [h1]; rfl
  have b2 : (x.f0 == 2) = true := beq_iff_eq.mpr h1
  clear h1
  cases he : x.f1.toList.isEmpty
  · have he2 : x.f1.toList = [] ↔ False := ⟨fun h => (by rw [h] at he; cases he), fun h => h.elim⟩
    by_cases h16 : x.f1.size ≤ 16
    · have h16' : (x.f1.size : Int) ≤ 16 := by omega
      go_enter Try.func31, Try.ntmps31
      go_wp2_with (fail)
      go_ret
      exact ⟨ret_bool (by simp [h16, beq_zero]), below_alloc (Below.refl _ _) _⟩
    · have h16' : 16 < (x.f1.size : Int) := by omega
      go_enter Try.func31, Try.ntmps31
      go_wp2_with (fail)
      go_ret
      exact ⟨ret_bool (by simp [h16]), below_alloc (Below.refl _ _) _⟩
  · have he2 : x.f1.toList = [] := by simpa using he
    go_enter Try.func31, Try.ntmps31
    go_wp2_with (fail)
    go_ret
    exact ⟨ret_bool (by simp), below_alloc (Below.refl _ _) _⟩
theorem proper_any : ∀ n, PropC n
  | 0 => fun _ _ _ _ h => absurd h (Nat.not_lt_zero _)
  | n + 1 => by
    intro x A c w hn hA hc
    have hsz : SizeOf.sizeOf x.f2 < SizeOf.sizeOf x := by cases x; simp; omega
    have hdef : propN x = if x.f0 = 1 then goodB x.f1.data.toList && (x.f2.length == 0) else if x.f0 = 2 then !x.f1.toList.isEmpty && decide (x.f1.size ≤ 16) && (x.f2.length == 0)
        else kidsOk x.f0 x.f2.length && x.f1.toList.isEmpty && propL x.f2 := by cases x; rfl
    rw [hdef]
    by_cases h1 : x.f0 = 1
    · rw [if_pos h1]
      exact proper_name x A c w h1
    · rw [if_neg h1]
      by_cases h2 : x.f0 = 2
      · rw [if_pos h2]
        exact proper_lit x A c w h2
      · rw [if_neg h2]
        exact proper_deep (proper_any n) x A c w (by omega) hA hc h1 h2
theorem proper_calls (x : S49) (A : Option Addr) (c : Nat) (w : World) (hA : k49.C w A x.f2.length x.f2) (hc : x.f2.length ≤ c) :
    Calls Try.prog 31 #[.agg #[.int .i64 x.f0, .string x.f1, .slice A x.f2.length c]] w fun e w' => e = .returned (.bool (propN x)) ∧ Below w.heap.size w w' :=
  proper_any _ x A c w (Nat.lt_succ_self _) hA hc
/-- Is a rule proper? -/
def propRule (r : S51) : Bool := goodB r.f0.data.toList && propN r.f1
set_option maxHeartbeats 4000000 in
set_option maxRecDepth 100000 in
theorem notRule_calls (x : S51) (A : Option Addr) (c : Nat) (w : World) (hA : k49.C w A x.f1.f2.length x.f1.f2) (hc : x.f1.f2.length ≤ c) :
    Calls Try.prog 30 #[.agg #[.string x.f0, .int .i64 x.f1.f0, .string x.f1.f1, .slice A x.f1.f2.length c]] w fun e w' => e = .returned (.bool (!propRule x)) ∧ Below w.heap.size w w' := by
  have HA := Aside0.mk hA
  have HC := Aside0.mk hc
  clear hA hc
  go_enter Try.func30, Try.ntmps30
  go_wp2_with (fail)
  refine (good_calls _ _).mono ?_
  rintro e w1 ⟨rfl, rfl⟩
  cases hg : goodB x.f0.data.toList
  · go_wp2_with (fail)
    go_ret
    exact ⟨ret_bool (by simp [propRule, hg]), below_alloc (Below.refl _ _) _⟩
  · go_wp2_with (fail)
    refine (proper_calls x.f1 A c _ (Kd.C_alloc HA.out _) HC.out).mono ?_
    rintro e w1 ⟨rfl, hb⟩
    have HB := Aside0.mk (below_step (below_alloc (Below.refl _ _) _) hb)
    clear hb
    cases hp : propN x.f1
    all_goals
      go_wp2_with (fail)
      go_ret
      exact ⟨ret_bool (by simp [propRule, hg, hp]), HB.out⟩
theorem all_drop {l : List S51} {k : Nat} (hl : k < l.length) : (l.drop k).all propRule = (propRule (rd_T51 l k) && (l.drop (k + 1)).all propRule) := by
  rw [List.drop_eq_getElem_cons hl, List.all_cons]
  simp [rd_T51, hl]
def IdxRR (w : World) (l : List S51) (k : Nat) (v : Value) (wr : World) : Prop :=
  ∃ i : Nat, v = .int .i64 i ∧ i + k = l.length + 1 ∧ Below w.heap.size w wr ∧ l.all propRule = (l.drop i).all propRule
set_option maxHeartbeats 4000000 in
set_option maxRecDepth 100000 in
theorem indexR_calls (l : List S51) (A : Option Addr) (c : Nat) (w : World) (hA : k51.C w A l.length l) (hc : l.length ≤ c) :
    Calls Try.prog 54 #[.slice A l.length c, .func (.func 30) #[] #[]] w (IdxPost (l.all propRule) w) := by
  have HA := Aside0.mk hA
  have hmax := Kd.C_max hA
  clear hA
  go_enter Try.func54, Try.ntmps54
  go_wp2_with (fail)
  go_loopg [8] (l.length + 1) (fun k s8 wr => IdxRR w l k s8 wr)
  case atStart => exact ⟨0, rfl, by omega, Below.refl _ _, rfl⟩
  case round =>
    obtain ⟨i, rfl, hi, hb, he⟩ := hrel
    have KB := Aside0.mk hb
    have KE := Aside0.mk he
    clear hb he
    by_cases hlt : i < l.length
    · have hlt' : (i : Int) < (l.length : Int) := by omega
      obtain ⟨ad, A2, c2, rfl, hx0, hx1, hx2, hx3, hxl, hxC⟩ := at_T51 (Kd.C_below HA.out KB.out) (i : Int) (by omega) hlt'
      simp only [Int.toNat_natCast] at hx0 hx1 hx2 hx3
      have HXC := Aside0.mk hxC
      have HXL := Aside0.mk hxl
      have HS := Aside0.mk (all_drop hlt)
      clear hxC hxl
      go_wp2_with (fail)
      refine (notRule_calls (rd_T51 l i) A2 c2 _ HXC.out HXL.out).mono ?_
      cases hs : propRule (rd_T51 l i)
      · rintro e w5 ⟨rfl, hb⟩
        have HB5 := Aside0.mk (below_step KB.out hb)
        have HSS := Aside0.mk hs
        clear hb hs
        go_wp2_with (fail)
        go_ret
        refine ⟨⟨_, rfl, ?_⟩, HB5.out⟩
        rw [KE.out, HS.out, HSS.out]
        simp
      · rintro e w5 ⟨rfl, hb⟩
        have HB5 := Aside0.mk (below_step KB.out hb)
        have HSS := Aside0.mk hs
        clear hb hs
        go_wp2_with (fail)
        go_roundg (l.length - i)
        case measure => omega
        case rel => exact ⟨i + 1, by go_num, by omega, HB5.out, by rw [KE.out, HS.out, HSS.out, Bool.true_and]⟩
    · have hge : (l.length : Int) ≤ i := by omega
      go_wp2_with (fail)
      go_ret
      refine ⟨⟨-1, rfl, ?_⟩, KB.out⟩
      rw [KE.out, List.drop_eq_nil_of_le (by omega)]
      rfl
set_option maxHeartbeats 4000000 in
set_option maxRecDepth 100000 in
theorem containsR_calls (l : List S51) (A : Option Addr) (c : Nat) (w : World) (hA : k51.C w A l.length l) (hc : l.length ≤ c) :
    Calls Try.prog 29 #[.slice A l.length c, .func (.func 30) #[] #[]] w fun e w' => e = .returned (.bool (!l.all propRule)) ∧ Below w.heap.size w w' := by
  have HI := Aside0.mk (indexR_calls l A c w hA hc)
  clear hA
  go_enter Try.func29, Try.ntmps29
  go_wp2_with (fail)
  refine HI.out.mono ?_
  rintro e w1 ⟨⟨i, rfl, hi⟩, hb⟩
  have HB := Aside0.mk hb
  clear hb
  cases hp : l.all propRule
  · rw [hp] at hi
    have hi' : 0 ≤ i := by simpa using hi
    clear hi
    have HP := Aside0.mk hp
    go_wp2_with (fail)
    go_ret
    exact ⟨ret_bool (by rw [HP.out]; simp [hi']), HB.out⟩
  · rw [hp] at hi
    have hi' : i = -1 := by simpa using hi
    subst hi'
    clear hi
    have HP := Aside0.mk hp
    go_wp2_with (fail)
    go_ret
    exact ⟨ret_bool (by rw [HP.out]; rfl), HB.out⟩
/-- Can a grammar be a text? -/
def propG (g : S25) : Bool := goodB g.f0.data.toList && decide (0 < g.f1.length) && g.f1.all propRule
set_option maxHeartbeats 4000000 in
set_option maxRecDepth 100000 in
theorem Proper_calls (x : S25) (A : Option Addr) (c : Nat) (w : World) (hA : k51.C w A x.f1.length x.f1) (hc : x.f1.length ≤ c) :
    Calls Try.prog 12 #[.agg #[.string x.f0, .slice A x.f1.length c]] w fun e w' => e = .returned (.bool (propG x)) ∧ Below w.heap.size w w' := by
  have HA := Aside0.mk hA
  have HC := Aside0.mk hc
  clear hA hc
  cases hg : goodB x.f0.data.toList
  · go_enter Try.func12, Try.ntmps12
    go_wp2_with (fail)
    refine (good_calls _ _).mono ?_
    rintro e w1 ⟨rfl, rfl⟩
    go_wp2_with (fail)
    go_ret
    exact ⟨ret_bool (by simp [propG, hg]), below_alloc (Below.refl _ _) _⟩
  · by_cases h0 : 0 < x.f1.length
    · have h0' : 0 < (x.f1.length : Int) := by omega
      have HG := Aside0.mk hg
      have H0 := Aside0.mk h0
      go_enter Try.func12, Try.ntmps12
      go_wp2_with (fail)
      refine (good_calls _ _).mono ?_
      rintro e w1 ⟨rfl, rfl⟩
      go_wp2_with (fail)
      refine (containsR_calls x.f1 A c _ (Kd.C_alloc HA.out _) HC.out).mono ?_
      rintro e w1 ⟨rfl, hb⟩
      have HB := Aside0.mk (below_step (below_alloc (Below.refl _ _) _) hb)
      clear hb
      have hdef : propG x = x.f1.all propRule := by unfold propG; rw [HG.out, decide_eq_true H0.out]; simp
      have HDEF := Aside0.mk hdef
      clear hdef
      cases hp : x.f1.all propRule
      all_goals
        have HP := Aside0.mk hp
        go_wp2_with (fail)
        go_ret
        exact ⟨ret_bool (by rw [HDEF.out, HP.out]), HB.out⟩
    · have h0' : (x.f1.length : Int) ≤ 0 := by omega
      have H0 := Aside0.mk h0
      go_enter Try.func12, Try.ntmps12
      go_wp2_with (fail)
      refine (good_calls _ _).mono ?_
      rintro e w1 ⟨rfl, rfl⟩
      go_wp2_with (fail)
      go_ret
      refine ⟨ret_bool ?_, below_alloc (Below.refl _ _) _⟩
      unfold propG
      rw [decide_eq_false H0.out]
      simp
end Go.Proofs.Ytgllncnfhiiobaa.Sw
