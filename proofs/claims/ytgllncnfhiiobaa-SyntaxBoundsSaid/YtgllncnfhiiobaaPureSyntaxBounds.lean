/- SyntaxBounds: as many rules, tokens and nested brackets as there may be are accepted, and one more is rejected; for every pair of numbers. -/
import Derived.Test.YtgllncnfhiiobaaPx2
import Derived.Test.YtgllncnfhiiobaaEvPos
import Derived.Test.YtgllncnfhiiobaaSynP
set_option linter.unusedVariables false
set_option linter.unusedSimpArgs false
namespace Go.Proofs.Ytgllncnfhiiobaa.Pure
open Go.RowKit Go.Proofs.Ytgllncnfhiiobaa.P Go.Proofs.YtgllncnfhiiobaaW.PrintWords Go.Proofs.YtgllncnfhiiobaaW.PrintLast Go.Proofs.Ytgllncnfhiiobaa Go.Proofs.Ytgllncnfhiiobaa.Sw

/-- A blank and a name, so often. -/
def bs : Nat → List UInt8
  | 0 => []
  | m + 1 => 32 :: 98 :: bs m
theorem bs_snoc : ∀ m, bs m ++ [32, 98] = bs (m + 1)
  | 0 => rfl
  | m + 1 => by
    show 32 :: 98 :: (bs m ++ [32, 98]) = _
    rw [bs_snoc m]
    rfl
theorem bs_length : ∀ m, (bs m).length = 2 * m
  | 0 => rfl
  | m + 1 => by
    show (bs m).length + 1 + 1 = _
    rw [bs_length m]
    omega
theorem scanF_sg {c : UInt8} (hc : Lx.isSign c = true) (n : Nat) (l : List UInt8) (p : Int × Int) (acc : List Lx.Tok) : Lx.scanF (n + 1) (c :: l) p acc = Lx.scanF n l (Lx.adv c p) (acc ++ [⟨3, [c], p⟩]) := by
  obtain ⟨h1, h2, h3, h4⟩ := Lx.sign_first c hc
  conv => lhs; unfold Lx.scanF
  have hs : Lx.skip false (c :: l) p = (c :: l, p) := by
    unfold Lx.skip
    rw [if_neg h1, h2]
    rfl
  have ht : Lx.token c l p = .ok (⟨3, [c], p⟩, l, Lx.adv c p) := by
    unfold Lx.token
    rw [h3, if_neg (by simp), if_neg h4, if_pos hc]
  rw [hs]
  simp only [ht]
theorem nameL_one {c : UInt8} (hc : Lx.inName c = true) {r : List UInt8} (hr : Lx.Stop r) (p : Int × Int) : Lx.nameL (c :: r) p = ([c], r, Lx.adv c p) := by
  unfold Lx.nameL
  rw [if_pos hc]
  cases r with
  | nil => rfl
  | cons d ds =>
    unfold Lx.nameL
    rw [if_neg (by rw [hr d ds rfl]; simp)]
theorem token_one {c : UInt8} (hc : Lx.letter c = true) {r : List UInt8} (hr : Lx.Stop r) (p : Int × Int) : Lx.token c r p = .ok (⟨1, [c], p⟩, r, Lx.adv c p) := by
  unfold Lx.token
  rw [if_pos hc, nameL_one (by unfold Lx.inName; rw [hc]; rfl) hr]
  rw [if_neg (by simp)]
/-- A name of one letter. -/
theorem scanF_one {c : UInt8} (hc : Lx.letter c = true) (n : Nat) {r : List UInt8} (hr : Lx.Stop r) (p : Int × Int) (acc : List Lx.Tok) : Lx.scanF (n + 1) (c :: r) p acc = Lx.scanF n r (Lx.adv c p) (acc ++ [⟨1, [c], p⟩]) := by
  obtain ⟨h1, h2⟩ := Lx.letter_first c hc
  conv => lhs; unfold Lx.scanF
  have hs : Lx.skip false (c :: r) p = (c :: r, p) := by
    unfold Lx.skip
    rw [if_neg h1, h2]
    rfl
  rw [hs]
  simp only [token_one hc hr]
/-- A name of one letter behind a blank. -/
theorem scanF_sp {c : UInt8} (hc : Lx.letter c = true) (n : Nat) {r : List UInt8} (hr : Lx.Stop r) (p : Int × Int) (acc : List Lx.Tok) : Lx.scanF (n + 1) (32 :: c :: r) p acc = Lx.scanF n r (Lx.adv c (Lx.adv 32 p)) (acc ++ [⟨1, [c], Lx.adv 32 p⟩]) := by
  obtain ⟨h1, h2⟩ := Lx.letter_first c hc
  conv => lhs; unfold Lx.scanF
  have hs : Lx.skip false (32 :: c :: r) p = (c :: r, Lx.adv 32 p) := by
    unfold Lx.skip
    rw [if_neg (by decide), if_pos (by decide)]
    unfold Lx.skip
    rw [if_neg h1, h2]
    rfl
  rw [hs]
  simp only [token_one hc hr]
theorem stop_bs : ∀ m, Lx.Stop (bs m ++ [59])
  | 0 => fun c cs e => by cases e; decide
  | _ + 1 => fun c cs e => by cases e; decide
theorem adv_line {c : UInt8} (h : c.toNat ≠ 10) (p : Int × Int) : (Lx.adv c p).1 = p.1 := by
  unfold Lx.adv
  rw [if_neg h]
theorem scanF_bs : ∀ (m n : Nat) (p : Int × Int) (acc : List Lx.Tok), ∃ us p', us.length = m ∧ (∀ t ∈ us, t.kind = 1 ∧ t.p.1 = p.1) ∧ p'.1 = p.1 ∧ Lx.scanF (m + n) (bs m ++ [59]) p acc = Lx.scanF n [59] p' (acc ++ us)
  | 0, n, p, acc => ⟨[], p, rfl, by simp, rfl, by simp [bs]⟩
  | m + 1, n, p, acc => by
    obtain ⟨us, p', h1, h2, h3, h4⟩ := scanF_bs m n (Lx.adv 98 (Lx.adv 32 p)) (acc ++ [⟨1, [98], Lx.adv 32 p⟩])
    have e : (Lx.adv 98 (Lx.adv 32 p)).1 = p.1 := by rw [adv_line (by decide), adv_line (by decide)]
    refine ⟨⟨1, [98], Lx.adv 32 p⟩ :: us, p', by simp [h1], ?_, h3.trans e, ?_⟩
    · intro t ht
      rcases List.mem_cons.1 ht with rfl | ht
      · exact ⟨rfl, adv_line (by decide) _⟩
      · exact ⟨(h2 t ht).1, (h2 t ht).2.trans e⟩
    · show Lx.scanF (m + 1 + n) (32 :: 98 :: (bs m ++ [59])) p acc = _
      rw [show m + 1 + n = (m + n) + 1 by omega, scanF_sp (by decide) _ (stop_bs m), h4]
      simp
/-- The tokens of the text with so many names in its one rule. -/
theorem scan_long (m : Nat) (hm : m ≤ 30000) : ∃ us p q, us.length = m ∧ (∀ t ∈ us, t.kind = 1 ∧ t.p.1 = 1) ∧ p.1 = 1 ∧
    Lx.scan (97 :: 58 :: (bs m ++ [59])) = .ok ([⟨1, [97], (1, 1)⟩, ⟨3, [58], (1, 2)⟩] ++ us ++ [⟨3, [59], p⟩, ⟨4, [], q⟩]) := by
  obtain ⟨us, p, h1, h2, h3, h4⟩ := scanF_bs m (m + 2) (1, 3) [⟨1, [97], (1, 1)⟩, ⟨3, [58], (1, 2)⟩]
  refine ⟨us, p, Lx.adv 59 p, h1, h2, h3, ?_⟩
  unfold Lx.scan
  rw [if_neg (by simp only [List.length_cons, List.length_append, bs_length, List.length_nil]; omega)]
  rw [show (97 :: 58 :: (bs m ++ [59])).length + 1 = (m + (m + 2)) + 1 + 1 by simp only [List.length_cons, List.length_append, bs_length, List.length_nil]; omega]
  rw [scanF_one (by decide) _ (fun c cs e => by cases e; decide), scanF_sg (by decide)]
  show Lx.scanF (m + (m + 2)) (bs m ++ [59]) (1, 3) [⟨1, [97], (1, 1)⟩, ⟨3, [58], (1, 2)⟩] = _
  rw [h4, scanF_sg (by decide)]
  unfold Lx.scanF
  simp only [Lx.skip]
  simp

section
variable {ts : List S46} {m : Nat} {A : Nat → Nat → Option (PR S49)}
theorem farF {i : Nat} {t : S46} (h : i < 4096) : farB i t = false := by
  unfold farB
  rw [decide_eq_false (by omega)]
  rfl
theorem farT {i : Nat} {t : S46} (h : 4096 ≤ i) (hk : t.f0 ≠ 4) : farB i t = true := by
  unfold farB
  rw [decide_eq_true h, beq_eq_false_iff_ne.mpr hk]
  rfl
theorem signF {t : S46} (h : t.f0 = 1) (s : ByteArray) : signB t s = false := by
  unfold signB
  rw [h]
  rfl
/-- One rule of so many names. -/
structure Long (ts : List S46) (m : Nat) : Prop where
  name : ∃ t, ts[0]? = some t ∧ t.f0 = 1
  colon : ∃ t, ts[1]? = some t ∧ t.f0 = 3 ∧ t.f1.toList = [58]
  names : ∀ j, j < m → ∃ t, ts[2 + j]? = some t ∧ t.f0 = 1 ∧ t.f2 = 1
  semi : ∃ t, ts[2 + m]? = some t ∧ t.f0 = 3 ∧ t.f1.toList = [59] ∧ t.f2 = 1
  fin : ∃ t, ts[2 + m + 1]? = some t ∧ t.f0 = 4
theorem Long.any (H : Long ts m) {j : Nat} (h : j ≤ m) : ∃ t, ts[2 + j]? = some t ∧ t.f0 ≠ 4 ∧ t.f2 = 1 ∧ (∀ s : ByteArray, s.toList ≠ [59] → signB t s = false) := by
  rcases Nat.lt_or_eq_of_le h with h | rfl
  · obtain ⟨t, h1, h2, h3⟩ := H.names j h
    exact ⟨t, h1, by rw [h2]; decide, h3, fun s _ => signF h2 s⟩
  · obtain ⟨t, h1, h2, h3, h4⟩ := H.semi
    refine ⟨t, h1, by rw [h2]; decide, h4, fun s hs => ?_⟩
    unfold signB
    rw [h3, h2, beq_eq_false_iff_ne.mpr (fun e => hs e.symm)]
    rfl
theorem atom_name (H : Long ts m) {j : Nat} (h : j < m) (hi : 2 + j < 4096) (op : Nat) : ∃ x, atomP A ts op (2 + j) = some (.ok (some x) (2 + j + 1)) := by
  obtain ⟨t, h1, h2, h3⟩ := H.names j h
  refine ⟨⟨1, t.f1, []⟩, ?_⟩
  unfold atomP peekP
  rw [h1]
  simp only [farF hi, Bool.false_eq_true, if_false, h2, if_true]
theorem atom_semi (H : Long ts m) (hi : 2 + m < 4096) (op : Nat) : atomP A ts op (2 + m) = some (.ok none (2 + m)) := by
  obtain ⟨t, h1, h2, h3, h4⟩ := H.semi
  obtain ⟨t', h1', _, _, hs⟩ := H.any (Nat.le_refl m)
  rw [h1] at h1'
  cases h1'
  unfold atomP peekP
  rw [h1]
  have e1 : signB t ⟨#[40]⟩ = false := hs _ (by rw [ByteArray.toList_eq]; decide)
  have e2 : signB t ⟨#[91]⟩ = false := hs _ (by rw [ByteArray.toList_eq]; decide)
  have e3 : signB t ⟨#[123]⟩ = false := hs _ (by rw [ByteArray.toList_eq]; decide)
  simp only [farF hi, Bool.false_eq_true, if_false, h2, e1, e2, e3]
  rfl
theorem suff_none (H : Long ts m) {j : Nat} (h : j ≤ m) (hi : 2 + j < 4096) (x : S49) : suffP ts (2 + j) x = some (.ok x (2 + j)) := by
  obtain ⟨t, h1, _, _, hs⟩ := H.any h
  unfold suffP peekP
  rw [h1]
  have e1 : signB t ⟨#[63]⟩ = false := hs _ (by rw [ByteArray.toList_eq]; decide)
  have e2 : signB t ⟨#[42]⟩ = false := hs _ (by rw [ByteArray.toList_eq]; decide)
  have e3 : signB t ⟨#[43]⟩ = false := hs _ (by rw [ByteArray.toList_eq]; decide)
  simp only [farF hi, Bool.false_eq_true, if_false, e1, e2, e3]
theorem suff_far (H : Long ts m) {j : Nat} (h : j ≤ m) (hi : 4096 ≤ 2 + j) (x : S49) : ∃ c, suffP ts (2 + j) x = some (.bad 1 c 6) := by
  obtain ⟨t, h1, hk, hl, hs⟩ := H.any h
  refine ⟨t.f3, ?_⟩
  unfold suffP peekP
  rw [h1]
  simp only [farT hi hk, if_true, hl]
theorem row_good (H : Long ts m) (hm : 2 + m < 4096) (op : Nat) : ∀ (d n : Nat) (acc : List S49), d ≤ m → d < n → ∃ l, rowL A ts op n (2 + (m - d)) acc = some (.ok l (2 + m))
  | 0, n, acc, _, hn => by
    obtain ⟨k, rfl⟩ : ∃ k, n = k + 1 := ⟨n - 1, by omega⟩
    refine ⟨acc, ?_⟩
    unfold rowL
    rw [Nat.sub_zero, atom_semi H hm]
    rfl
  | d + 1, n, acc, hd, hn => by
    obtain ⟨k, rfl⟩ : ∃ k, n = k + 1 := ⟨n - 1, by omega⟩
    obtain ⟨x, hx⟩ := atom_name (A := A) H (j := m - (d + 1)) (by omega) (by omega) op
    have e : 2 + (m - (d + 1)) + 1 = 2 + (m - d) := by omega
    obtain ⟨l, hl⟩ := row_good H hm op d k (acc ++ [x]) (by omega) (by omega)
    refine ⟨l, ?_⟩
    unfold rowL
    rw [hx, e]
    simp only [andThen]
    rw [suff_none H (by omega) (by omega)]
    exact hl
theorem row_bad (H : Long ts m) (hm : 4096 ≤ 2 + m) (op : Nat) : ∀ (d n : Nat) (acc : List S49), d < 4094 → d < n → ∃ c, rowL A ts op n (2 + (4093 - d)) acc = some (.bad 1 c 6)
  | 0, n, acc, _, hn => by
    obtain ⟨k, rfl⟩ : ∃ k, n = k + 1 := ⟨n - 1, by omega⟩
    obtain ⟨x, hx⟩ := atom_name (A := A) H (j := 4093) (by omega) (by omega) op
    obtain ⟨c, hc⟩ := suff_far H (j := 4094) (by omega) (by omega) x
    refine ⟨c, ?_⟩
    unfold rowL
    rw [Nat.sub_zero, hx]
    simp only [andThen]
    rw [show 2 + 4093 + 1 = 2 + 4094 from rfl, hc]
  | d + 1, n, acc, hd, hn => by
    obtain ⟨k, rfl⟩ : ∃ k, n = k + 1 := ⟨n - 1, by omega⟩
    obtain ⟨x, hx⟩ := atom_name (A := A) H (j := 4093 - (d + 1)) (by omega) (by omega) op
    have e : 2 + (4093 - (d + 1)) + 1 = 2 + (4093 - d) := by omega
    obtain ⟨c, hc⟩ := row_bad H hm op d k (acc ++ [x]) (by omega) (by omega)
    refine ⟨c, ?_⟩
    unfold rowL
    rw [hx, e]
    simp only [andThen]
    rw [suff_none H (by omega) (by omega)]
    exact hc
theorem start_long (H : Long ts m) : startP ts = some (.ok ⟨#[]⟩ 0) := by
  obtain ⟨t, h1, h2⟩ := H.name
  unfold startP peekP
  rw [h1]
  simp only [farF (show 0 < 4096 by decide), Bool.false_eq_true, if_false, signF h2]
theorem rules_long (H : Long ts m) {M n : Nat} (acc : List S51) (ha : acc.length < 64) : ∃ name, rulesL ts M (n + 1) true 0 acc = andThen (altP ts M 0 2) fun b l => andThen (takeP ts l ⟨#[59]⟩) fun _ o => rulesL ts M n false o (acc ++ [⟨name, b⟩]) := by
  obtain ⟨t, h1, h2⟩ := H.name
  obtain ⟨t', h1', h2', h3'⟩ := H.colon
  refine ⟨t.f1, ?_⟩
  conv => lhs; unfold rulesL peekP
  rw [h1]
  have e0 : ¬ (t.f0 = 1 ∧ acc.length = 64) := fun h => by omega
  simp only [farF (show 0 < 4096 by decide), Bool.false_eq_true, if_false, Bool.not_true, Bool.false_and, e0]
  have hn : nameP ts 0 = some (.ok t.f1 1) := by
    unfold nameP peekP
    rw [h1]
    simp only [farF (show 0 < 4096 by decide), Bool.false_eq_true, if_false, h2, if_true]
  have hc : takeP ts 1 ⟨#[58]⟩ = some (.ok () 2) := by
    unfold takeP peekP signB
    rw [h1']
    have e : t'.f1.toList == (⟨#[58]⟩ : ByteArray).toList := by rw [h3', ByteArray.toList_eq]; decide
    simp only [farF (show 1 < 4096 by decide), Bool.false_eq_true, if_false, h2', e, beq_self_eq_true, Bool.and_self, if_true]
  rw [hn]
  simp only [andThen]
  rw [hc]
theorem alt_good (H : Long ts m) (hm : 2 + m < 4096) (op n : Nat) (hn : m < n) : ∃ b, altP ts n op 2 = some (.ok b (2 + m)) := by
  obtain ⟨k, rfl⟩ : ∃ k, n = k + 1 := ⟨n - 1, by omega⟩
  obtain ⟨l, hl⟩ := row_good (A := altP ts k) H hm op m (k + 1) [] (Nat.le_refl _) hn
  rw [Nat.sub_self] at hl
  obtain ⟨t, h1, _, _, hs⟩ := H.any (Nat.le_refl m)
  have e1 : signB t ⟨#[124]⟩ = false := hs _ (by rw [ByteArray.toList_eq]; decide)
  refine ⟨oneOr 4 [oneOr 3 l], ?_⟩
  unfold altP rowP
  rw [show (2 : Nat) = 2 + 0 from rfl, hl]
  simp only [Option.map_some, PR.map, andThen]
  unfold altL peekP
  rw [h1]
  simp only [farF hm, Bool.false_eq_true, if_false, e1, Option.map_some, PR.map]
theorem alt_bad (H : Long ts m) (hm : 4096 ≤ 2 + m) (op n : Nat) (hn : 4094 < n) : ∃ c, altP ts n op 2 = some (.bad 1 c 6) := by
  obtain ⟨k, rfl⟩ : ∃ k, n = k + 1 := ⟨n - 1, by omega⟩
  obtain ⟨c, hc⟩ := row_bad (A := altP ts k) H hm op 4093 (k + 1) [] (by omega) (by omega)
  rw [Nat.sub_self] at hc
  refine ⟨c, ?_⟩
  unfold altP rowP
  rw [show (2 : Nat) = 2 + 0 from rfl, hc]
  simp only [Option.map_some, PR.map, andThen]
theorem grammar_long (H : Long ts m) {n : Nat} (hn2 : m + 1 < n) : (2 + m < 4096 → ∃ s r i, grammarP ts n = some (.ok ⟨s, [r]⟩ i)) ∧ (4096 ≤ 2 + m → ∃ c, grammarP ts n = some (.bad 1 c 6)) := by
  obtain ⟨k, rfl⟩ : ∃ k, n = k + 1 + 1 := ⟨n - 1 - 1, by omega⟩
  have hg : grammarP ts (k + 1 + 1) = (rulesL ts (k + 1 + 1) (k + 1 + 1) true 0 []).map (PR.map fun l => ⟨startOf ⟨#[]⟩ l, l⟩) := by
    unfold grammarP
    rw [start_long H]
    rfl
  obtain ⟨name, hr⟩ := rules_long (M := k + 1 + 1) (n := k + 1) H [] (by simp)
  rw [hg, hr]
  constructor
  · intro hm
    obtain ⟨b, hb⟩ := alt_good H hm 0 (k + 1 + 1) (by omega)
    obtain ⟨t, h1, h2, h3, _⟩ := H.semi
    obtain ⟨t', h1', h2'⟩ := H.fin
    have hc : takeP ts (2 + m) ⟨#[59]⟩ = some (.ok () (2 + m + 1)) := by
      unfold takeP peekP signB
      rw [h1]
      have e : t.f1.toList == (⟨#[59]⟩ : ByteArray).toList := by rw [h3, ByteArray.toList_eq]; decide
      simp only [farF hm, Bool.false_eq_true, if_false, h2, e, beq_self_eq_true, Bool.and_self, if_true]
    have hl : rulesL ts (k + 1 + 1) (k + 1) false (2 + m + 1) [⟨name, b⟩] = some (.ok [⟨name, b⟩] (2 + m + 1)) := by
      unfold rulesL peekP farB
      rw [h1']
      simp only [h2', beq_self_eq_true, Bool.not_true, Bool.and_false, Bool.false_eq_true, if_false, Bool.not_false, Bool.and_self, if_true]
    refine ⟨startOf ⟨#[]⟩ [⟨name, b⟩], ⟨name, b⟩, 2 + m + 1, ?_⟩
    rw [hb]
    simp only [andThen]
    rw [hc]
    simp only [List.nil_append, hl, Option.map_some, PR.map]
  · intro hm
    obtain ⟨c, hc⟩ := alt_bad H hm 0 (k + 1 + 1) (by omega)
    refine ⟨c, ?_⟩
    rw [hc]
    rfl
end
theorem toS_text (t : Lx.Tok) : (toS t).f1.toList = t.text := by
  show (⟨t.text.toArray⟩ : ByteArray).toList = _
  rw [ByteArray.toList_eq]
theorem long_of {us : List Lx.Tok} {p q : Int × Int} {m : Nat} (h1 : us.length = m) (h2 : ∀ t ∈ us, t.kind = 1 ∧ t.p.1 = 1) (h3 : p.1 = 1) :
    Long (([⟨1, [97], (1, 1)⟩, ⟨3, [58], (1, 2)⟩] ++ us ++ [⟨3, [59], p⟩, ⟨4, [], q⟩] : List Lx.Tok).map toS) m := by
  subst h1
  refine ⟨⟨_, rfl, rfl⟩, ⟨_, rfl, rfl, toS_text _⟩, fun j hj => ?_, ⟨toS ⟨3, [59], p⟩, ?_, rfl, toS_text _, h3⟩, ⟨toS ⟨4, [], q⟩, ?_, rfl⟩⟩
  · refine ⟨toS us[j], ?_, (h2 _ (List.getElem_mem hj)).1, (h2 _ (List.getElem_mem hj)).2⟩
    rw [List.getElem?_map, List.append_assoc, List.getElem?_append_right (by simp), List.getElem?_append_left (by simpa using hj)]
    simp [List.getElem?_eq_getElem hj]
  · rw [List.getElem?_map, List.getElem?_append_right (by simp; omega), show 2 + us.length - ([⟨1, [97], (1, 1)⟩, ⟨3, [58], (1, 2)⟩] ++ us : List Lx.Tok).length = 0 by simp; omega]
    rfl
  · rw [List.getElem?_map, List.getElem?_append_right (by simp; omega), show 2 + us.length + 1 - ([⟨1, [97], (1, 1)⟩, ⟨3, [58], (1, 2)⟩] ++ us : List Lx.Tok).length = 1 by simp; omega]
    rfl
theorem parse_long (s : ByteArray) (m : Nat) (hs : s.data.toList = 97 :: 58 :: (bs m ++ [59])) (hm : m ≤ 30000) (hm2 : 4087 ≤ m) :
    (m ≤ 4093 → ∃ st r, syntax_Parse.f s = some (st, [r], 0, 0, 0)) ∧ (4093 < m → ∃ c, syntax_Parse.f s = some (⟨#[]⟩, [], 1, c, 6)) := by
  obtain ⟨us, p, q, h1, h2, h3, h4⟩ := scan_long m hm
  have H := long_of (q := q) h1 h2 h3
  obtain ⟨g1, g2⟩ := grammar_long H (n := ([⟨1, [97], (1, 1)⟩, ⟨3, [58], (1, 2)⟩] ++ us ++ [⟨3, [59], p⟩, ⟨4, [], q⟩] : List Lx.Tok).length + 2) (by simp; omega)
  unfold syntax_Parse.f parseR
  rw [hs, h4]
  constructor
  · intro hm
    obtain ⟨st, r, i, hg⟩ := g1 (by omega)
    exact ⟨st, r, by simp only [hg]; rfl⟩
  · intro hm
    obtain ⟨c, hg⟩ := g2 (by omega)
    exact ⟨c, by simp only [hg]; rfl⟩
/-- The bytes as numbers. -/
def ns (l : List UInt8) : List Int := l.map fun c => (c.toNat : Int)
theorem ns_str (l : List UInt8) : strOfNums (ns l) = ⟨l.toArray⟩ := by
  unfold strOfNums ns
  apply ByteArray.ext
  apply Array.ext'
  simp [Function.comp_def]
theorem l1_run (x0 : Int) (hx : 4090 ≤ x0) (hx2 : x0 ≤ 4105) : ∀ (d k j : Nat), (j : Int) + d = x0 - 3 → primerlaw05_SyntaxBounds.l1 (k + d) x0 4096 6 (ns (97 :: 58 :: bs j)) j = primerlaw05_SyntaxBounds.l1 k x0 4096 6 (ns (97 :: 58 :: bs (j + d))) (x0 - 3)
  | 0, k, j, h => by
    rw [show x0 - 3 = (j : Int) by omega]
    rfl
  | d + 1, k, j, h => by
    rw [show k + (d + 1) = (k + d) + 1 by omega]
    conv => lhs; unfold primerlaw05_SyntaxBounds.l1
    rw [wr_int (x0 - 3) (by omega) (by omega), if_pos (by omega), if_pos (by simp only [ns, List.length_map, List.length_cons, bs_length]; omega), wr_nat j (by omega)]
    rw [show ns (97 :: 58 :: bs j) ++ bytesOf ⟨#[32, 98]⟩ = ns (97 :: 58 :: bs (j + 1)) by rw [← bs_snoc j]; simp [ns, bytesOf]]
    rw [l1_run x0 hx hx2 d k (j + 1) (by push_cast; omega)]
    rw [show j + 1 + d = j + (d + 1) by omega]
theorem l1_end (x0 : Int) (m : Nat) (hx : 4090 ≤ x0) (hx2 : x0 ≤ 4105) (hm : (m : Int) = x0 - 3) (k : Nat) : primerlaw05_SyntaxBounds.l1 (k + 1) x0 4096 6 (ns (97 :: 58 :: bs m)) (x0 - 3) = some true := by
  unfold primerlaw05_SyntaxBounds.l1
  rw [wr_int (x0 - 3) (by omega) (by omega), if_neg (by omega), ns_str]
  have hd : ((⟨(97 :: 58 :: bs m).toArray⟩ : ByteArray) ++ (⟨#[59]⟩ : ByteArray)).data.toList = 97 :: 58 :: (bs m ++ [59]) := by
    rw [ByteArray.data_append]
    simp
  have hsz : (⟨(97 :: 58 :: bs m).toArray⟩ : ByteArray).size = 2 + 2 * m := by
    show (97 :: 58 :: bs m).toArray.size = _
    simp only [List.size_toArray, List.length_cons, bs_length]
    omega
  rw [hsz, if_pos (by omega)]
  obtain ⟨g1, g2⟩ := parse_long _ m hd (by omega) (by omega)
  by_cases h : m ≤ 4093
  · obtain ⟨st, r, hr⟩ := g1 h
    rw [hr]
    simp only [Option.bind_some]
    rw [if_neg (by omega), if_pos trivial]
    rfl
  · obtain ⟨c, hr⟩ := g2 (by omega)
    rw [hr]
    simp only [Option.bind_some]
    rw [if_pos (by omega), if_pos trivial, if_pos trivial]
    rfl
theorem l0_all : ∀ i : Fin 8, primerlaw05_SyntaxBounds.l0 100 (60 + (i.val : Int)) ⟨#[]⟩ 64 6 0 = some true
  | 0 => by kernel_rfl
  | 1 => by kernel_rfl
  | 2 => by kernel_rfl
  | 3 => by kernel_rfl
  | 4 => by kernel_rfl
  | 5 => by kernel_rfl
  | 6 => by kernel_rfl
  | 7 => by kernel_rfl
theorem l2_all : ∀ i : Fin 8, primerlaw05_SyntaxBounds.l2 100 (12 + (i.val : Int)) ⟨#[97, 58]⟩ 16 11 0 = some true
  | 0 => by kernel_rfl
  | 1 => by kernel_rfl
  | 2 => by kernel_rfl
  | 3 => by kernel_rfl
  | 4 => by kernel_rfl
  | 5 => by kernel_rfl
  | 6 => by kernel_rfl
  | 7 => by kernel_rfl
theorem SyntaxBounds : primerlaw05_SyntaxBounds.Pure := by
  intro a0 a1 w0 w1
  obtain ⟨i, hi⟩ : ∃ i : Fin 8, a0 % 8 = (i.val : Int) := ⟨⟨(a0 % 8).toNat, by omega⟩, by simp; omega⟩
  by_cases c0 : (Int.tmod (wrap64 ((Int.tmod a1 3) + 3)) 3) = 0
  · refine ⟨100, ?_⟩
    unfold primerlaw05_SyntaxBounds.f
    rw [show primerlaw05_speaks.f = some true from rfl]
    simp only [Option.bind_some, if_true]
    rw [if_pos c0, Lw.and7, hi, wr_int _ (by omega) (by have := i.isLt; omega)]
    exact l0_all i
  · by_cases c1 : (Int.tmod (wrap64 ((Int.tmod a1 3) + 3)) 3) = 1
    · obtain ⟨x0, hx0⟩ : ∃ x0 : Int, x0 = 4090 + a0 % 16 := ⟨_, rfl⟩
      obtain ⟨m, hm⟩ : ∃ m : Nat, (m : Int) = x0 - 3 := ⟨(x0 - 3).toNat, by omega⟩
      refine ⟨0 + 1 + m, ?_⟩
      unfold primerlaw05_SyntaxBounds.f
      rw [show primerlaw05_speaks.f = some true from rfl]
      simp only [Option.bind_some, if_true]
      rw [if_neg c0, if_pos c1, Lw.and15, ← hx0, wr_int _ (by omega) (by omega)]
      refine (l1_run x0 (by omega) (by omega) m (0 + 1) 0 (by omega)).trans ?_
      rw [Nat.zero_add m]
      exact l1_end x0 m (by omega) (by omega) hm 0
    · refine ⟨100, ?_⟩
      unfold primerlaw05_SyntaxBounds.f
      rw [show primerlaw05_speaks.f = some true from rfl]
      simp only [Option.bind_some, if_true]
      rw [if_neg c0, if_neg c1, Lw.and7, hi, wr_int _ (by omega) (by have := i.isLt; omega)]
      exact l2_all i
end Go.Proofs.Ytgllncnfhiiobaa.Pure
