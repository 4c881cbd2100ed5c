/- Rounds that are enough; places of a text: for the laws over printed functions. -/
import Derived.Test.YtgllncnfhiiobaaPx0
import Derived.Test.YtgllncnfhiiobaaLexA
set_option linter.unusedVariables false
set_option linter.unusedSimpArgs false
namespace Go.Proofs.Ytgllncnfhiiobaa.Pure
open Go.RowKit Go.Proofs.Ytgllncnfhiiobaa.P Go.Proofs.YtgllncnfhiiobaaW.PrintWords Go.Proofs.YtgllncnfhiiobaaW.PrintLast Go.Proofs.Ytgllncnfhiiobaa

/-- From some number of rounds on, it tells r. -/
def Ev {α : Type} (g : Nat → Option α) (r : α) : Prop := ∃ K, ∀ k, K ≤ k → g k = some r
theorem Ev.const {α : Type} {r : α} : Ev (fun _ => some r) r := ⟨0, fun _ _ => rfl⟩
theorem Ev.fixed {α : Type} {g : Option α} {r : α} (h : g = some r) : Ev (fun _ => g) r := ⟨0, fun _ _ => h⟩
theorem Ev.succ {α : Type} {g : Nat → Option α} {r : α} (h : Ev (fun k => g (k + 1)) r) : Ev g r := by
  obtain ⟨K, h⟩ := h
  refine ⟨K + 1, fun k hk => ?_⟩
  obtain ⟨m, rfl⟩ : ∃ m, k = m + 1 := ⟨k - 1, by omega⟩
  exact h m (by omega)
theorem Ev.bind {α β : Type} {g : Nat → Option β} {b : β} {h : Nat → β → Option α} {r : α} (h1 : Ev g b) (h2 : Ev (fun k => h k b) r) : Ev (fun k => (g k).bind (h k)) r := by
  obtain ⟨K, h1⟩ := h1
  obtain ⟨L, h2⟩ := h2
  refine ⟨K + L, fun k hk => ?_⟩
  show (g k).bind (h k) = some r
  rw [h1 k (by omega)]
  exact h2 k (by omega)
theorem Ev.at {α : Type} {g : Nat → Option α} {r : α} (h : Ev g r) : ∃ k, g k = some r := by
  obtain ⟨K, h⟩ := h
  exact ⟨K, h K (Nat.le_refl _)⟩
theorem Ev.eq {α : Type} {g g' : Nat → Option α} {r : α} (h : Ev g r) (e : ∀ k, g' k = g k) : Ev g' r := by
  obtain ⟨K, h⟩ := h
  exact ⟨K, fun k hk => by rw [e]; exact h k hk⟩

theorem Ev.pos {α : Type} {c : Prop} [Decidable c] {g g' : Nat → Option α} {r : α} (h : c) (H : Ev g r) : Ev (fun k => if c then g k else g' k) r := H.eq fun k => if_pos h
theorem Ev.neg {α : Type} {c : Prop} [Decidable c] {g g' : Nat → Option α} {r : α} (h : ¬ c) (H : Ev g' r) : Ev (fun k => if c then g k else g' k) r := H.eq fun k => if_neg h
theorem Ev.eq' {α : Type} {g : Nat → Option α} {r r' : α} (h : Ev g r) (e : r = r') : Ev g r' := e ▸ h
theorem all_bytes {P : UInt8 → Prop} (h : ∀ n, n < 256 → P (UInt8.ofNat n)) (c : UInt8) : P c := by
  have := h c.toNat c.toNat_lt
  rwa [UInt8.ofNat_toNat] at this

theorem wr_nat (n : Nat) (h : n < 4611686018427387904) : wrap64 ((n : Int) + 1) = ((n + 1 : Nat) : Int) := by unfold wrap64; omega
theorem wr_int (n : Int) (h0 : -4611686018427387904 ≤ n) (h : n ≤ 4611686018427387904) : wrap64 n = n := by unfold wrap64; omega

theorem bt_get {s : ByteArray} {i : Nat} {c : UInt8} (h : s.data.toList[i]? = some c) : bt s i = (c.toNat : Int) := by
  obtain ⟨hi, hc⟩ := List.getElem?_eq_some_iff.1 h
  have hi' : i < s.size := by simpa using hi
  unfold bt
  rw [dif_pos (by simpa using hi')]
  simp only [Int.toNat_natCast]
  have : s[i] = c := by rw [← hc]; simp [ByteArray.getElem_eq_getElem_data]
  rw [this]
theorem length_data (s : ByteArray) : s.data.toList.length = s.size := by simp

structure Pos (s : ByteArray) (i : Nat) (l : List UInt8) (p : Int × Int) : Prop where
  d : s.data.toList.drop i = l
  le : i ≤ s.size
  pl : (s.data.toList.take i).foldl (fun p c => Lx.adv c p) (1, 1) = p
theorem Pos.start (s : ByteArray) : Pos s 0 s.data.toList (1, 1) := ⟨rfl, Nat.zero_le _, rfl⟩
theorem Pos.get {s : ByteArray} {i : Nat} {c : UInt8} {cs : List UInt8} {p : Int × Int} (h : Pos s i (c :: cs) p) : s.data.toList[i]? = some c := by
  have := congrArg (fun l => l[0]?) h.d
  simpa using this
theorem Pos.lt {s : ByteArray} {i : Nat} {c : UInt8} {cs : List UInt8} {p : Int × Int} (h : Pos s i (c :: cs) p) : i < s.size := by
  have := (List.getElem?_eq_some_iff.1 h.get).1
  simpa using this
theorem Pos.len {s : ByteArray} {i : Nat} {l : List UInt8} {p : Int × Int} (h : Pos s i l p) : i + l.length = s.size := by
  have := h.le
  rw [← h.d, List.length_drop, length_data]
  omega
theorem Pos.bt {s : ByteArray} {i : Nat} {c : UInt8} {cs : List UInt8} {p : Int × Int} (h : Pos s i (c :: cs) p) : bt s i = (c.toNat : Int) := bt_get h.get
theorem Pos.next {s : ByteArray} {i : Nat} {c : UInt8} {cs : List UInt8} {p : Int × Int} (h : Pos s i (c :: cs) p) : Pos s (i + 1) cs (Lx.adv c p) := by
  refine ⟨?_, h.lt, ?_⟩
  · rw [← List.drop_drop, h.d]
    rfl
  · rw [List.take_add_one, h.get]
    simp [List.foldl_append, h.pl]
theorem Pos.nil {s : ByteArray} {i : Nat} {p : Int × Int} (h : Pos s i [] p) : i = s.size := by
  have := h.len
  simpa using this
theorem Pos.jump {s : ByteArray} {i : Nat} {a b : List UInt8} {p : Int × Int} (h : Pos s i (a ++ b) p) : s.extract i (i + a.length) = ⟨⟨a⟩⟩ := by
  apply ByteArray.ext
  apply Array.ext'
  rw [ByteArray.data_extract, Array.toList_extract, List.extract, h.d]
  simp
end Go.Proofs.Ytgllncnfhiiobaa.Pure
