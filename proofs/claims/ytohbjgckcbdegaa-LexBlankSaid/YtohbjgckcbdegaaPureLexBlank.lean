/- LexBlank: more blanks and comments between tokens change places alone; for every argument. -/
import Derived.Test.YtohbjgckcbdegaaPx13
import Derived.Test.YtohbjgckcbdegaaLexRefQ
import Derived.Test.YtohbjgckcbdegaaLexPlainB
set_option linter.unusedVariables false
set_option linter.unusedSimpArgs false
namespace Go.Proofs.Ytohbjgckcbdegaa.Pure
open Go.RowKit Go.Proofs.Ytohbjgckcbdegaa.P Go.Proofs.YtohbjgckcbdegaaW.PrintWords Go.Proofs.YtohbjgckcbdegaaW.PrintLast Go.Proofs.Ytohbjgckcbdegaa

theorem speaks_true : primerlaw04_speaks.f = some true := by kernel_rfl

theorem app_mk (a b : List UInt8) : (⟨⟨a⟩⟩ : ByteArray) ++ (⟨⟨b⟩⟩ : ByteArray) = ⟨⟨a ++ b⟩⟩ := by
  apply ByteArray.ext
  rw [ByteArray.data_append]
  simp
theorem and_three (a : Int) : 0 ≤ Go.bits .and .i64 a 3 ∧ Go.bits .and .i64 a 3 ≤ 3 := by
  have h : ((BitVec.ofInt IntKind.i64.bits a) &&& (BitVec.ofInt IntKind.i64.bits 3)).toNat ≤ 3 := by
    rw [BitVec.toNat_and]
    exact Nat.le_trans Nat.and_le_right (by decide)
  unfold Go.bits
  simp only []
  rw [IntKind.wrap_i64]
  generalize ((BitVec.ofInt IntKind.i64.bits a) &&& (BitVec.ofInt IntKind.i64.bits 3)).toNat = z at h ⊢
  omega

abbrev gapsA : List ByteArray := [(⟨#[32]⟩ : ByteArray), (⟨#[9, 10]⟩ : ByteArray), (⟨#[32, 35, 32, 110, 111, 32, 116, 111, 107, 101, 110, 32, 39, 32, 104, 101, 114, 101, 10]⟩ : ByteArray), (⟨#[13, 10, 32]⟩ : ByteArray)]
theorem gaps_at (g : Int) (h0 : 0 ≤ g) (h3 : g ≤ 3) : ∃ l, Lx.IsGap l ∧ rdOf ByteArray.empty gapsA g = ⟨⟨l⟩⟩ := by
  obtain rfl | rfl | rfl | rfl : g = 0 ∨ g = 1 ∨ g = 2 ∨ g = 3 := by omega
  · exact ⟨_, Or.inl rfl, rfl⟩
  · exact ⟨_, Or.inr (Or.inl rfl), rfl⟩
  · exact ⟨_, Or.inr (Or.inr (Or.inl rfl)), rfl⟩
  · exact ⟨_, Or.inr (Or.inr (Or.inr rfl)), rfl⟩
theorem rd_at (pre : List Lx.Tok) (t : Lx.Tok) (post : List Lx.Tok) : rd_T31 ((pre ++ t :: post).map toS) ((pre.length : Nat) : Int) = toS t := by
  simp [rd_T31]

abbrev fin (x5 : List S31) (out : List UInt8) (k : Nat) : Option Bool :=
  (lex_Scan.f ⟨⟨out⟩⟩).bind fun bt340 => (if bt340.2.2.2 = 0 then (primerlaw04_LexBlank.j1 k x5 bt340.1 ((bt340.1.length : Int) != (x5.length : Int))) else (primerlaw04_LexBlank.j1 k x5 bt340.1 true))

theorem piece_step {s : ByteArray} {r : Bool} (x1 : List Int) (x5 : List S31) (t : Lx.Tok) (hv : Lx.V t) (i : Nat) (hi : i ≤ 100000) (out g : List UInt8) (ho : out.length + g.length ≤ 100000000)
    (h : Ev (fun k => primerlaw04_LexBlank.l0 k x1 x5 ⟨⟨out ++ (g ++ Lx.piece t)⟩⟩ ((i + 1 : Nat) : Int)) r) :
    Ev (fun k => if (toS t).f0 = 2 then ((lex_Quote.f k ((toS t).f1)).bind fun t330 => (if ((⟨⟨out⟩⟩ : ByteArray) ++ ⟨⟨g⟩⟩).size + t330.size ≤ 9223372036854775807 then (primerlaw04_LexBlank.l0 k x1 x5 (((⟨⟨out⟩⟩ : ByteArray) ++ ⟨⟨g⟩⟩) ++ t330) (wrap64 ((i : Int) + 1))) else (none))) else (if ((⟨⟨out⟩⟩ : ByteArray) ++ ⟨⟨g⟩⟩).size + ((toS t).f1).size ≤ 9223372036854775807 then (primerlaw04_LexBlank.l0 k x1 x5 (((⟨⟨out⟩⟩ : ByteArray) ++ ⟨⟨g⟩⟩) ++ ((toS t).f1)) (wrap64 ((i : Int) + 1))) else (none))) r := by
  have hpl := Lx.piece_len hv
  have hsz : ∀ l : List UInt8, (⟨⟨l⟩⟩ : ByteArray).size = l.length := fun _ => rfl
  rw [app_mk, wr_nat _ (by omega), hsz]
  by_cases hk : t.kind = 2
  · refine Ev.pos hk ?_
    have hp : Lx.piece t = Lx.quote t.text := by unfold Lx.piece; rw [if_pos hk]
    have hlen : t.text.length ≤ 16 := by
      rcases hv with ⟨h1, _⟩ | ⟨_, _, h2⟩ | ⟨h1, _⟩
      · omega
      · exact h2
      · omega
    refine Ev.bind (quote_ref (toS t).f1 (by show t.text.length ≤ 100000; omega)) ?_
    show Ev (fun k => if (out ++ g).length + (Lx.quote t.text).length ≤ 9223372036854775807 then (primerlaw04_LexBlank.l0 k x1 x5 ((⟨⟨out ++ g⟩⟩ : ByteArray) ++ ⟨⟨Lx.quote t.text⟩⟩) ((i + 1 : Nat) : Int)) else none) r
    rw [hp] at hpl h
    refine Ev.pos (by rw [List.length_append]; omega) ?_
    rw [app_mk, List.append_assoc]
    exact h
  · refine Ev.neg hk ?_
    have hp : Lx.piece t = t.text := by unfold Lx.piece; rw [if_neg hk]
    show Ev (fun k => if (out ++ g).length + t.text.length ≤ 9223372036854775807 then (primerlaw04_LexBlank.l0 k x1 x5 ((⟨⟨out ++ g⟩⟩ : ByteArray) ++ ⟨⟨t.text⟩⟩) ((i + 1 : Nat) : Int)) else none) r
    rw [hp] at hpl h
    refine Ev.pos (by rw [List.length_append]; omega) ?_
    rw [app_mk, List.append_assoc]
    exact h
theorem blank_loop (x1 : List Int) (ts : List Lx.Tok) (e : Lx.Tok) (hl : ts.length ≤ 1000) {r : Bool} (rem : List Lx.Tok) : ∀ (pre : List Lx.Tok) (out : List UInt8), ts = pre ++ rem → (∀ t ∈ rem, Lx.V t) → out.length ≤ 100 * pre.length →
    (∀ l, Lx.Built rem l → Ev (fin ((ts ++ [e]).map toS) (out ++ l)) r) → Ev (fun k => primerlaw04_LexBlank.l0 k x1 ((ts ++ [e]).map toS) ⟨⟨out⟩⟩ ((pre.length : Nat) : Int)) r := by
  induction rem with
  | nil =>
    intro pre out he hv ho H
    have hpl := congrArg List.length he
    simp only [List.length_append, List.length_nil] at hpl
    refine Ev.succ ?_
    simp only [primerlaw04_LexBlank.l0]
    refine Ev.neg ?_ ?_
    · rw [List.length_map, List.length_append, List.length_singleton, wr_int _ (by omega) (by omega)]
      omega
    · have := H [] Lx.Built.nil
      rw [List.append_nil] at this
      exact this
  | cons t rem ih =>
    intro pre out he hv ho H
    have hpl := congrArg List.length he
    simp only [List.length_append, List.length_cons] at hpl
    have hvt := hv t (by simp)
    have hrd : rd_T31 ((ts ++ [e]).map toS) ((pre.length : Nat) : Int) = toS t := by
      rw [he, List.append_assoc, List.cons_append]
      exact rd_at _ _ _
    have hlen : (((ts ++ [e]).map toS).length : Int) = ts.length + 1 := by rw [List.length_map, List.length_append, List.length_singleton]; omega
    have hsz : ∀ l : List UInt8, (⟨⟨l⟩⟩ : ByteArray).size = l.length := fun _ => rfl
    have next : ∀ g, Lx.IsGap g → Ev (fun k => primerlaw04_LexBlank.l0 k x1 ((ts ++ [e]).map toS) ⟨⟨out ++ (g ++ Lx.piece t)⟩⟩ ((pre.length + 1 : Nat) : Int)) r := by
      intro g hg
      have h1 := Lx.gap_len hg
      have h2 := Lx.piece_len hvt
      have := ih (pre ++ [t]) (out ++ (g ++ Lx.piece t)) (by simp [he]) (fun u hu => hv u (by simp [hu])) (by simp only [List.length_append, List.length_singleton]; omega) (fun l hb => by
        have := H _ (Lx.Built.cons hg hb)
        simpa [List.append_assoc] using this)
      simpa using this
    refine Ev.succ ?_
    simp only [primerlaw04_LexBlank.l0]
    rw [hlen, hrd]
    refine Ev.pos ?_ ?_
    · rw [wr_int _ (by omega) (by omega)]
      omega
    · by_cases hx : ((pre.length : Nat) : Int) < (x1.length : Int)
      · refine Ev.pos hx (Ev.pos (by omega) ?_)
        simp only [Option.bind_some]
        obtain ⟨h0, h3⟩ := and_three (rd x1 ((pre.length : Nat) : Int))
        obtain ⟨g, hg, hge⟩ := gaps_at _ h0 h3
        have h1 := Lx.gap_len hg
        rw [hge, hsz, hsz]
        refine Ev.pos h0 (Ev.pos (by simp; omega) (Ev.pos (by omega) (Ev.pos (by omega) ?_)))
        exact piece_step (s := ⟨#[]⟩) x1 _ t hvt pre.length (by omega) out g (by omega) (next g hg)
      · refine Ev.neg hx ?_
        simp only [Option.bind_some]
        obtain ⟨g, hg, hge⟩ := gaps_at 0 (by omega) (by omega)
        have h1 := Lx.gap_len hg
        rw [hge, hsz, hsz]
        refine Ev.pos (by simp) (Ev.pos (by omega) (Ev.pos (by omega) (Ev.pos (by omega) ?_)))
        exact piece_step (s := ⟨#[]⟩) x1 _ t hvt pre.length (by omega) out g (by omega) (next g hg)
theorem same_kt (a b : List Lx.Tok) (hl : a.length ≤ 100000) (h : b.map Lx.kt = a.map Lx.kt) (d : Nat) : ∀ i : Nat, i + d = b.length → Ev (fun k => primerlaw04_LexBlank.l1 k (a.map toS) (b.map toS) i) true := by
  have hlen : b.length = a.length := by have := congrArg List.length h; simpa using this
  induction d with
  | zero =>
    intro i hi
    refine Ev.succ ?_
    simp only [primerlaw04_LexBlank.l1]
    exact Ev.neg (by simp; omega) Ev.const
  | succ d ih =>
    intro i hi
    have hb : i < b.length := by omega
    have ha : i < a.length := by omega
    have e1 : rd_T31 (a.map toS) i = toS a[i] := by simp [rd_T31, ha]
    have e2 : rd_T31 (b.map toS) i = toS b[i] := by simp [rd_T31, hb]
    have hkt : Lx.kt b[i] = Lx.kt a[i] := by
      have := congrArg (fun l => l[i]?) h
      simp only [List.getElem?_map, List.getElem?_eq_getElem hb, List.getElem?_eq_getElem ha, Option.map_some, Option.some.injEq] at this
      exact this
    simp only [Lx.kt, Prod.mk.injEq] at hkt
    refine Ev.succ ?_
    simp only [primerlaw04_LexBlank.l1]
    rw [e1, e2, wr_nat _ (by omega)]
    refine Ev.pos (by simp; omega) (Ev.pos (by omega) (Ev.pos (by simp; omega) (Ev.pos (by simp [toS, hkt.1]) (Ev.pos (by simp [toS, hkt.2]) ?_))))
    exact ih (i + 1) (by omega)
theorem LexBlank : primerlaw04_LexBlank.Pure := by
  intro a gs _ _ _ _
  apply Ev.at
  unfold primerlaw04_LexBlank.f
  rw [speaks_true]
  simp only [Option.bind_some, if_true]
  by_cases h : a.size ≤ 500
  · refine Ev.neg (by omega) ?_
    have hl := length_data a
    unfold lex_Scan.f
    simp only [Option.bind_some]
    cases hs : Lx.scan a.data.toList with
    | error f => exact Ev.neg (Lx.scan_err hs) Ev.const
    | ok ts =>
      obtain ⟨init, e, rfl, hv, he, hlen⟩ := Lx.scan_valid hs
      refine Ev.pos rfl ?_
      have := blank_loop gs init e (by omega) (r := true) init [] [] (by simp) hv (by simp) (fun l hb => by
        rw [List.nil_append]
        have hbl := hb.len hv
        obtain ⟨ts', e', h1, h2, h3⟩ := Lx.scan_built hb hv (by omega)
        refine Ev.eq (g := fun k => fin ((init ++ [e]).map toS) l k) ?_ (fun _ => rfl)
        simp only [fin]
        unfold lex_Scan.f
        rw [show (⟨⟨l⟩⟩ : ByteArray).data.toList = l from rfl, h1]
        simp only [Option.bind_some]
        have hlen2 : ts'.length = init.length := by have := congrArg List.length h2; simpa using this
        refine Ev.pos (by trivial) (Ev.succ ?_)
        simp only [primerlaw04_LexBlank.j1]
        refine Ev.neg (by simp [hlen2]) ?_
        refine same_kt (init ++ [e]) (ts' ++ [e']) (by simp; omega) ?_ (ts' ++ [e']).length 0 (by omega)
        obtain ⟨k1, t1⟩ := he
        obtain ⟨k2, t2⟩ := h3
        simp [h2, Lx.kt, k1, t1, k2, t2])
      exact this
  · exact Ev.pos (by omega) Ev.const
end Go.Proofs.Ytohbjgckcbdegaa.Pure
