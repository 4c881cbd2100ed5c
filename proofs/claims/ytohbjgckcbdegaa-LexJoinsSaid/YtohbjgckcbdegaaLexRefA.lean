/- Rounds that are enough; places of a text; letters: for the laws over the printed references. -/
import Derived.Test.YtohbjgckcbdegaaPx3
import Derived.Test.YtohbjgckcbdegaaLexLaws
set_option linter.unusedVariables false
set_option linter.unusedSimpArgs false
namespace Go.Proofs.Ytohbjgckcbdegaa.Pure
open Go.RowKit Go.Proofs.Ytohbjgckcbdegaa.P Go.Proofs.YtohbjgckcbdegaaW.PrintWords Go.Proofs.YtohbjgckcbdegaaW.PrintLast Go.Proofs.Ytohbjgckcbdegaa

/-- From some number of rounds on, it tells r. -/
def Ev {α : Type} (g : Nat → Option α) (r : α) : Prop := ∃ K, ∀ k, K ≤ k → g k = some r
theorem Ev.const {α : Type} {r : α} : Ev (fun _ => some r) r := ⟨0, fun _ _ => rfl⟩
theorem Ev.fixed {α : Type} {g : Option α} {r : α} (h : g = some r) : Ev (fun _ => g) r := ⟨0, fun _ _ => h⟩
theorem Ev.succ {α : Type} {g : Nat → Option α} {r : α} (h : Ev (fun k => g (k + 1)) r) : Ev g r := by
  obtain ⟨K, h⟩ := h
  refine ⟨K + 1, fun k hk => ?_⟩
  obtain ⟨m, rfl⟩ : ∃ m, k = m + 1 := ⟨k - 1, by omega⟩
  exact h m (by omega)
theorem Ev.bind {α β : Type} {g : Nat → Option β} {b : β} {h : Nat → β → Option α} {r : α} (h1 : Ev g b) (h2 : Ev (fun k => h k b) r) : Ev (fun k => (g k).bind (h k)) r := by
  obtain ⟨K, h1⟩ := h1
  obtain ⟨L, h2⟩ := h2
  refine ⟨K + L, fun k hk => ?_⟩
  show (g k).bind (h k) = some r
  rw [h1 k (by omega)]
  exact h2 k (by omega)
theorem Ev.at {α : Type} {g : Nat → Option α} {r : α} (h : Ev g r) : ∃ k, g k = some r := by
  obtain ⟨K, h⟩ := h
  exact ⟨K, h K (Nat.le_refl _)⟩
theorem Ev.eq {α : Type} {g g' : Nat → Option α} {r : α} (h : Ev g r) (e : ∀ k, g' k = g k) : Ev g' r := by
  obtain ⟨K, h⟩ := h
  exact ⟨K, fun k hk => by rw [e]; exact h k hk⟩

theorem Ev.pos {α : Type} {c : Prop} [Decidable c] {g g' : Nat → Option α} {r : α} (h : c) (H : Ev g r) : Ev (fun k => if c then g k else g' k) r := H.eq fun k => if_pos h
theorem Ev.neg {α : Type} {c : Prop} [Decidable c] {g g' : Nat → Option α} {r : α} (h : ¬ c) (H : Ev g' r) : Ev (fun k => if c then g k else g' k) r := H.eq fun k => if_neg h
theorem Ev.eq' {α : Type} {g : Nat → Option α} {r r' : α} (h : Ev g r) (e : r = r') : Ev g r' := e ▸ h
theorem all_bytes {P : UInt8 → Prop} (h : ∀ n, n < 256 → P (UInt8.ofNat n)) (c : UInt8) : P c := by
  have := h c.toNat c.toNat_lt
  rwa [UInt8.ofNat_toNat] at this

theorem wr_nat (n : Nat) (h : n < 4611686018427387904) : wrap64 ((n : Int) + 1) = ((n + 1 : Nat) : Int) := by unfold wrap64; omega
theorem wr_int (n : Int) (h0 : -4611686018427387904 ≤ n) (h : n ≤ 4611686018427387904) : wrap64 n = n := by unfold wrap64; omega

theorem bt_get {s : ByteArray} {i : Nat} {c : UInt8} (h : s.data.toList[i]? = some c) : bt s i = (c.toNat : Int) := by
  obtain ⟨hi, hc⟩ := List.getElem?_eq_some_iff.1 h
  have hi' : i < s.size := by simpa using hi
  unfold bt
  rw [dif_pos (by simpa using hi')]
  simp only [Int.toNat_natCast]
  have : s[i] = c := by rw [← hc]; simp [ByteArray.getElem_eq_getElem_data]
  rw [this]
theorem length_data (s : ByteArray) : s.data.toList.length = s.size := by simp

structure Pos (s : ByteArray) (i : Nat) (l : List UInt8) (p : Int × Int) : Prop where
  d : s.data.toList.drop i = l
  le : i ≤ s.size
  pl : (s.data.toList.take i).foldl (fun p c => Lx.adv c p) (1, 1) = p
theorem Pos.start (s : ByteArray) : Pos s 0 s.data.toList (1, 1) := ⟨rfl, Nat.zero_le _, rfl⟩
theorem Pos.get {s : ByteArray} {i : Nat} {c : UInt8} {cs : List UInt8} {p : Int × Int} (h : Pos s i (c :: cs) p) : s.data.toList[i]? = some c := by
  have := congrArg (fun l => l[0]?) h.d
  simpa using this
theorem Pos.lt {s : ByteArray} {i : Nat} {c : UInt8} {cs : List UInt8} {p : Int × Int} (h : Pos s i (c :: cs) p) : i < s.size := by
  have := (List.getElem?_eq_some_iff.1 h.get).1
  simpa using this
theorem Pos.len {s : ByteArray} {i : Nat} {l : List UInt8} {p : Int × Int} (h : Pos s i l p) : i + l.length = s.size := by
  have := h.le
  rw [← h.d, List.length_drop, length_data]
  omega
theorem Pos.bt {s : ByteArray} {i : Nat} {c : UInt8} {cs : List UInt8} {p : Int × Int} (h : Pos s i (c :: cs) p) : bt s i = (c.toNat : Int) := bt_get h.get
theorem Pos.next {s : ByteArray} {i : Nat} {c : UInt8} {cs : List UInt8} {p : Int × Int} (h : Pos s i (c :: cs) p) : Pos s (i + 1) cs (Lx.adv c p) := by
  refine ⟨?_, h.lt, ?_⟩
  · rw [← List.drop_drop, h.d]
    rfl
  · rw [List.take_add_one, h.get]
    simp [List.foldl_append, h.pl]
theorem Pos.nil {s : ByteArray} {i : Nat} {p : Int × Int} (h : Pos s i [] p) : i = s.size := by
  have := h.len
  simpa using this
theorem Pos.jump {s : ByteArray} {i : Nat} {a b : List UInt8} {p : Int × Int} (h : Pos s i (a ++ b) p) : s.extract i (i + a.length) = ⟨⟨a⟩⟩ := by
  apply ByteArray.ext
  apply Array.ext'
  rw [ByteArray.data_extract, Array.toList_extract, List.extract, h.d]
  simp
theorem letter_ref (c : UInt8) : primerref04_letter.f (c.toNat : Int) = some (Lx.letter c) := by
  revert c
  exact all_bytes (by decide +kernel)
theorem rest_ref (c : UInt8) : primerref04_rest.f (c.toNat : Int) = some (Lx.inName c) := by
  revert c
  exact all_bytes (by decide +kernel)

theorem fold_bound (l : List UInt8) : ∀ p : Int × Int, ∀ m : Int, 1 ≤ m → 1 ≤ p.1 → p.1 ≤ m → 1 ≤ p.2 → p.2 ≤ m →
    1 ≤ (l.foldl (fun p c => Lx.adv c p) p).1 ∧ (l.foldl (fun p c => Lx.adv c p) p).1 ≤ m + l.length ∧ 1 ≤ (l.foldl (fun p c => Lx.adv c p) p).2 ∧ (l.foldl (fun p c => Lx.adv c p) p).2 ≤ m + l.length := by
  induction l with
  | nil => intro p m h0 h1 h2 h3 h4; simp; omega
  | cons c cs ih =>
    intro p m h0 h1 h2 h3 h4
    have := ih (Lx.adv c p) (m + 1) (by omega) (by unfold Lx.adv; split <;> simp <;> omega) (by unfold Lx.adv; split <;> simp <;> omega) (by unfold Lx.adv; split <;> simp <;> omega) (by unfold Lx.adv; split <;> simp <;> omega)
    simp only [List.foldl_cons, List.length_cons]
    push_cast
    omega
theorem place_from {s : ByteArray} (hs : s.size ≤ 100000) {i : Nat} (hi : i ≤ s.size) (d : Nat) : ∀ j : Nat, j + d = i → ∀ p : Int × Int, (s.data.toList.take j).foldl (fun p c => Lx.adv c p) (1, 1) = p →
    Ev (fun k => primerref04_Place.l0 k s i p.1 p.2 j) ((s.data.toList.take i).foldl (fun p c => Lx.adv c p) (1, 1)) := by
  induction d with
  | zero =>
    intro j hj p hp
    have : j = i := by omega
    subst this
    refine Ev.succ ?_
    simp only [primerref04_Place.l0]
    rw [hp]
    exact Ev.neg (by omega) Ev.const
  | succ d ih =>
    intro j hj p hp
    have hb := fold_bound (s.data.toList.take j) (1, 1) 1 (by omega) (by simp) (by simp) (by simp) (by simp)
    rw [hp, List.length_take, length_data] at hb
    have hl : j < s.data.toList.length := by rw [length_data]; omega
    have hg : s.data.toList[j]? = some s.data.toList[j] := List.getElem?_eq_getElem hl
    generalize s.data.toList[j] = c at hg
    have hn : (s.data.toList.take (j + 1)).foldl (fun p c => Lx.adv c p) (1, 1) = Lx.adv c p := by
      rw [List.take_add_one, hg]
      simp [List.foldl_append, hp]
    have := ih (j + 1) (by omega) _ hn
    refine Ev.succ ?_
    simp only [primerref04_Place.l0]
    refine Ev.pos (by omega) (Ev.pos (by omega) (Ev.pos (by omega) ?_))
    rw [bt_get hg, wr_nat _ (by omega), wr_int (p.1 + 1) (by omega) (by omega), wr_int (p.2 + 1) (by omega) (by omega)]
    by_cases hc : c.toNat = 10
    · refine Ev.pos (by omega) ?_
      simpa [Lx.adv, hc] using this
    · refine Ev.neg (by omega) ?_
      simpa [Lx.adv, hc] using this
theorem Pos.place {s : ByteArray} {i : Nat} {l : List UInt8} {p : Int × Int} (h : Pos s i l p) (hs : s.size ≤ 100000) : Ev (fun k => primerref04_Place.f k s i) p := by
  have := place_from hs h.le i 0 (by omega) (1, 1) rfl
  rw [h.pl] at this
  exact this
theorem hex_one (c : UInt8) : primerref04_hex.f 1 (c.toNat : Int) = some (match Lx.hexv c with | some a => (a : Int) | none => -1) := by
  revert c
  exact all_bytes (by decide +kernel)
theorem hex_ref (c : UInt8) : Ev (fun k => primerref04_hex.f k (c.toNat : Int)) (match Lx.hexv c with | some a => (a : Int) | none => -1) := by
  refine Ev.succ ?_
  refine (Ev.fixed (hex_one c)).eq fun k => ?_
  unfold primerref04_hex.f
  simp only [primerref04_hex.j0]
theorem hexv_lt {c : UInt8} {a : Nat} (h : Lx.hexv c = some a) : a < 16 := by
  unfold Lx.hexv at h
  split at h
  · injection h with h; omega
  · split at h
    · injection h with h; omega
    · cases h
end Go.Proofs.Ytohbjgckcbdegaa.Pure
