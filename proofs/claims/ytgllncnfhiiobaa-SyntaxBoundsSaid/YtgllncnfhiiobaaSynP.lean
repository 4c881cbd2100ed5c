/- Plain laws of the parser: more rounds tell the same; enough rounds tell something; a part that is read hangs on its tokens alone. A text's tokens, but for their places, do not hang on the place where it begins; the tokens of a text, as the parser wants them. Plain laws of the parser: rules that are read again elsewhere. -/
import Derived.Test.YtgllncnfhiiobaaSynB
import Derived.Test.YtgllncnfhiiobaaLexP
import Derived.Test.YtgllncnfhiiobaaLexExt
import Derived.Test.YtgllncnfhiiobaaSynC
set_option linter.unusedVariables false
set_option linter.unusedSimpArgs false
namespace Go.Proofs.Ytgllncnfhiiobaa.Sw
open Go.RowKit Go.Proofs.YtgllncnfhiiobaaW.PrintWords Go.Proofs.Ytgllncnfhiiobaa Go.Proofs.Ytgllncnfhiiobaa.P

section
variable {ts : List S46} {op i : Nat}
/-! ### More rounds -/
def AltLe (A B : Nat → Nat → Option (PR S49)) : Prop := ∀ op i r, A op i = some r → B op i = some r
theorem andThen_le {α β : Type} {x y : Option (PR α)} {k k' : α → Nat → Option (PR β)} {r : PR β} (h : andThen x k = some r) (hx : ∀ q, x = some q → y = some q) (hk : ∀ a j, k a j = some r → k' a j = some r) : andThen y k' = some r := by
  rcases andThen_some h with ⟨l, c, e, h1, rfl⟩ | ⟨a, j, h1, h2⟩
  · rw [hx _ h1]; rfl
  · rw [hx _ h1]; exact hk a j h2
theorem peekP_le {β : Type} {k k' : S46 → Option (PR β)} {r : PR β} (h : peekP ts i k = some r) (hk : ∀ t, k t = some r → k' t = some r) : peekP ts i k' = some r := by
  obtain ⟨t, ht, ⟨hf, hr⟩ | ⟨hf, hr⟩⟩ := peekP_some h
  · unfold peekP; rw [ht]; simp only [hf, if_true]; rw [hr]
  · unfold peekP; rw [ht]; simp only [hf]; exact hk t hr
theorem map_le {α β : Type} {f : α → β} {x y : Option (PR α)} {r : PR β} (h : x.map (PR.map f) = some r) (hx : ∀ q, x = some q → y = some q) : y.map (PR.map f) = some r := by
  obtain ⟨q, hq, rfl⟩ := map_some h
  rw [hx _ hq]; rfl
variable {A B : Nat → Nat → Option (PR S49)}
theorem aroundP_le (H : AltLe A B) {s : ByteArray} {r : PR S49} (h : aroundP A ts op i s = some r) : aroundP B ts op i s = some r := by
  unfold aroundP at h ⊢
  split at h
  · cases h
  · rename_i t ht
    split at h
    · rename_i ho; rw [if_pos ho]; exact h
    · rename_i ho; rw [if_neg ho]; exact andThen_le h (fun q hq => H _ _ _ hq) (fun _ _ hk => hk)
theorem atomP_le (H : AltLe A B) {r : PR (Option S49)} (h : atomP A ts op i = some r) : atomP B ts op i = some r := by
  unfold atomP at h ⊢
  refine peekP_le h fun t hk => ?_
  repeat' split at hk
  all_goals first
    | (simp_all; done)
    | (simp only [*, if_true, if_false, Bool.false_eq_true]; exact map_le hk (fun q hq => aroundP_le H hq))
theorem rowL_le (H : AltLe A B) : ∀ {n m i : Nat} {acc : List S49} {r : PR (List S49)}, n ≤ m → rowL A ts op n i acc = some r → rowL B ts op m i acc = some r
  | 0, _, _, _, _, _, h => by simp [rowL] at h
  | n + 1, m, i, acc, r, hm, h => by
    obtain ⟨m, rfl⟩ : ∃ k, m = k + 1 := ⟨m - 1, by omega⟩
    unfold rowL at h ⊢
    refine andThen_le h (fun q hq => atomP_le H hq) fun x j hk => ?_
    cases x with
    | none => exact hk
    | some x => exact andThen_le hk (fun q hq => hq) (fun y k hk => rowL_le H (by omega) hk)
theorem rowP_le (H : AltLe A B) {n m : Nat} (hm : n ≤ m) {r : PR S49} (h : rowP A ts n op i = some r) : rowP B ts m op i = some r := map_le h (fun q hq => rowL_le H hm hq)
theorem altL_le (H : AltLe A B) {p q : Nat} (hp : p ≤ q) : ∀ {n m i : Nat} {acc : List S49} {r : PR (List S49)}, n ≤ m → altL A ts p op n i acc = some r → altL B ts q op m i acc = some r
  | 0, _, _, _, _, _, h => by simp [altL] at h
  | n + 1, m, i, acc, r, hm, h => by
    obtain ⟨m, rfl⟩ : ∃ k, m = k + 1 := ⟨m - 1, by omega⟩
    unfold altL at h ⊢
    refine peekP_le h fun t hk => ?_
    split at hk
    · rename_i hs
      rw [if_pos hs]
      exact andThen_le hk (fun q hq => rowP_le H hp hq) (fun y k hk => altL_le H hp (by omega) hk)
    · rename_i hs
      rw [if_neg hs]
      exact hk
theorem altP_le : ∀ {n m : Nat}, n ≤ m → AltLe (altP ts n) (altP ts m)
  | 0, _, _ => fun _ _ _ h => by simp [altP] at h
  | n + 1, m, hm => fun op i r h => by
    obtain ⟨m, rfl⟩ : ∃ k, m = k + 1 := ⟨m - 1, by omega⟩
    have IH := altP_le (show n ≤ m by omega)
    unfold altP at h ⊢
    exact map_le h (fun q hq => andThen_le hq (fun q hq => rowP_le IH (by omega) hq) (fun x j hk => altL_le IH (by omega) (by omega) hk))
theorem rulesL_le {p q : Nat} (hp : p ≤ q) : ∀ {n m i : Nat} {first : Bool} {acc : List S51} {r : PR (List S51)}, n ≤ m → rulesL ts p n first i acc = some r → rulesL ts q m first i acc = some r
  | 0, _, _, _, _, _, _, h => by simp [rulesL] at h
  | n + 1, m, i, first, acc, r, hm, h => by
    obtain ⟨m, rfl⟩ : ∃ k, m = k + 1 := ⟨m - 1, by omega⟩
    unfold rulesL at h ⊢
    refine peekP_le h fun t hk => ?_
    split at hk
    · rename_i hs; rw [if_pos hs]; exact hk
    · rename_i hs
      rw [if_neg hs]
      split at hk
      · rename_i h2; rw [if_pos h2]; exact hk
      · rename_i h2
        rw [if_neg h2]
        exact andThen_le hk (fun q hq => hq) (fun nm j hk => andThen_le hk (fun q hq => hq) (fun _ k hk => andThen_le hk (fun q hq => altP_le hp _ _ _ hq) (fun b l hk => andThen_le hk (fun q hq => hq) (fun _ o hk => rulesL_le hp (by omega) hk))))
theorem grammarP_le {n m : Nat} (hm : n ≤ m) {r : PR S25} (h : grammarP ts n = some r) : grammarP ts m = some r :=
  andThen_le h (fun q hq => hq) (fun s j hk => map_le hk (fun q hq => rulesL_le hm hm hq))

/-! ### Enough rounds -/
/-- The tokens of a text: the last one is the end, and it alone. -/
structure Toks (ts : List S46) : Prop where
  pos : 0 < ts.length
  next : ∀ i t, ts[i]? = some t → t.f0 ≠ 4 → i + 1 < ts.length
theorem tok_at {i : Nat} (h : i < ts.length) : ∃ t, ts[i]? = some t := ⟨ts[i], List.getElem?_eq_getElem h⟩
/-- It tells something, and stays among the tokens. -/
def Tells {α : Type} (ts : List S46) (x : Option (PR α)) : Prop := ∃ r, x = some r ∧ ∀ a j, r = .ok a j → j < ts.length
theorem Tells.ok {α : Type} {a : α} {j : Nat} (h : j < ts.length) : Tells ts (some (.ok a j)) := ⟨_, rfl, fun _ _ e => by cases e; exact h⟩
theorem Tells.bad {α : Type} {l k e : Int} : Tells ts (some (.bad l k e : PR α)) := ⟨_, rfl, fun _ _ e => by cases e⟩
theorem Tells.peek {β : Type} {k : S46 → Option (PR β)} (h : i < ts.length) (hk : ∀ t, ts[i]? = some t → Tells ts (k t)) : Tells ts (peekP ts i k) := by
  obtain ⟨t, ht⟩ := tok_at h
  unfold peekP
  rw [ht]
  simp only []
  split
  · exact Tells.bad
  · exact hk t ht
theorem Tells.bind {α β : Type} {x : Option (PR α)} {k : α → Nat → Option (PR β)} (hx : Tells ts x) (hk : ∀ a j, x = some (.ok a j) → j < ts.length → Tells ts (k a j)) : Tells ts (andThen x k) := by
  obtain ⟨r, rfl, hr⟩ := hx
  cases r with
  | bad l c e => exact Tells.bad
  | ok a j => exact hk a j rfl (hr a j rfl)
theorem Tells.map {α β : Type} {f : α → β} {x : Option (PR α)} (hx : Tells ts x) : Tells ts (x.map (PR.map f)) := by
  obtain ⟨r, rfl, hr⟩ := hx
  cases r with
  | bad l c e => exact Tells.bad
  | ok a j => exact Tells.ok (hr a j rfl)
theorem takeP_tells (T : Toks ts) (h : i < ts.length) (s : ByteArray) : Tells ts (takeP ts i s) := by
  refine Tells.peek h fun t ht => ?_
  split
  · rename_i hs
    exact Tells.ok (T.next i t ht (by have := signB_kind hs; omega))
  · exact Tells.bad
theorem nameP_tells (T : Toks ts) (h : i < ts.length) : Tells ts (nameP ts i) := by
  refine Tells.peek h fun t ht => ?_
  split
  · rename_i hs
    exact Tells.ok (T.next i t ht (by omega))
  · exact Tells.bad
def AltT (ts : List S46) (b : Nat) (A : Nat → Nat → Option (PR S49)) : Prop := ∀ op i, i < ts.length → ts.length < i + b → Tells ts (A op i)
theorem aroundP_tells (T : Toks ts) {b : Nat} (H : AltT ts b A) {t : S46} (ht : ts[i]? = some t) (hk : t.f0 ≠ 4) (hb : ts.length < i + 1 + b) (s : ByteArray) : Tells ts (aroundP A ts op i s) := by
  unfold aroundP
  rw [ht]
  simp only []
  split
  · exact Tells.bad
  · exact (H _ _ (T.next i t ht hk) hb).bind fun n j _ hj => (takeP_tells T hj s).bind fun _ k _ hk => Tells.ok hk
theorem atomP_tells (T : Toks ts) {b : Nat} (H : AltT ts b A) (h : i < ts.length) (hb : ts.length < i + 1 + b) : Tells ts (atomP A ts op i) := by
  refine Tells.peek h fun t ht => ?_
  split
  · exact Tells.ok (T.next i t ht (by omega))
  · split
    · exact Tells.ok (T.next i t ht (by omega))
    · split
      · rename_i hs
        exact (aroundP_tells T H ht (by have := signB_kind hs; omega) hb _).map
      · split
        · rename_i hs
          exact (aroundP_tells T H ht (by have := signB_kind hs; omega) hb _).map
        · split
          · rename_i hs
            exact (aroundP_tells T H ht (by have := signB_kind hs; omega) hb _).map
          · exact Tells.ok h
theorem suffP_tells (T : Toks ts) (h : i < ts.length) (n : S49) : Tells ts (suffP ts i n) := by
  refine Tells.peek h fun t ht => ?_
  repeat' split
  all_goals first
    | exact Tells.ok h
    | (rename_i hs; exact Tells.ok (T.next i t ht (by have := signB_kind hs; omega)))
theorem rowL_tells (T : Toks ts) {b : Nat} (H : AltT ts b A) (HM : AltM A) : ∀ {n i : Nat} {acc : List S49}, i < ts.length → ts.length < i + 1 + b → ts.length < i + n → Tells ts (rowL A ts op n i acc)
  | 0, i, acc, h, _, hn => by omega
  | n + 1, i, acc, h, hb, hn => by
    unfold rowL
    refine (atomP_tells T H h hb).bind fun x j hx hj => ?_
    cases x with
    | none => exact Tells.ok hj
    | some x =>
      have h1 := (atomP_ok HM hx).2
      refine (suffP_tells T hj x).bind fun y k hy hk => ?_
      have h2 := suffP_ok hy
      exact rowL_tells T H HM hk (by omega) (by omega)
theorem altL_tells (T : Toks ts) {b m : Nat} (H : AltT ts b A) (HM : AltM A) : ∀ {n i : Nat} {acc : List S49}, i < ts.length → ts.length < i + 1 + b → ts.length < i + m → ts.length < i + n → Tells ts (altL A ts m op n i acc)
  | 0, i, acc, h, _, _, hn => by omega
  | n + 1, i, acc, h, hb, hm, hn => by
    unfold altL
    refine Tells.peek h fun t ht => ?_
    split
    · rename_i hs
      have hi := T.next i t ht (by have := signB_kind hs; omega)
      refine (Tells.map (rowL_tells T H HM hi (by omega) (by omega))).bind fun x j hx hj => ?_
      have h1 := rowP_ok HM hx
      exact altL_tells T H HM hj (by omega) (by omega) (by omega)
    · exact Tells.ok h
theorem altP_tells (T : Toks ts) : ∀ n, AltT ts n (altP ts n)
  | 0 => fun _ _ _ _ => by omega
  | n + 1 => fun op i h hb => by
    unfold altP
    refine Tells.map ((Tells.map (rowL_tells T (altP_tells T n) (altP_ok n) h (by omega) (by omega))).bind fun x j hx hj => ?_)
    have h1 := rowP_ok (altP_ok n) hx
    exact altL_tells T (altP_tells T n) (altP_ok n) hj (by omega) (by omega) (by omega)
theorem nameP_ok {s : ByteArray} {j : Nat} (h : nameP ts i = some (.ok s j)) : j = i + 1 := by
  obtain ⟨t, ht, ⟨hf, hh⟩ | ⟨hf, hh⟩⟩ := peekP_some h
  · cases hh
  · split at hh
    · cases hh; rfl
    · cases hh
theorem rulesL_tells (T : Toks ts) {m : Nat} : ∀ {n i : Nat} {first : Bool} {acc : List S51}, i < ts.length → ts.length < i + m → ts.length < i + n → Tells ts (rulesL ts m n first i acc)
  | 0, _, _, _, _, _, _ => by omega
  | n + 1, i, first, acc, h, hm, hn => by
    unfold rulesL
    refine Tells.peek h fun t ht => ?_
    split
    · exact Tells.ok h
    · split
      · exact Tells.bad
      · refine (nameP_tells T h).bind fun nm j hj0 hj => ?_
        have e1 := nameP_ok hj0
        refine (takeP_tells T hj _).bind fun _ k hk0 hk => ?_
        have e2 := takeP_ok hk0
        refine (altP_tells T m 0 k hk (by omega)).bind fun b l hl0 hl => ?_
        have e3 := altP_ok m _ _ _ _ hl0
        refine (takeP_tells T hl _).bind fun _ o ho0 ho => ?_
        have e4 := takeP_ok ho0
        exact rulesL_tells T ho (by omega) (by omega)
theorem startP_tells (T : Toks ts) : Tells ts (startP ts) := by
  refine Tells.peek T.pos fun t ht => ?_
  split
  · rename_i hs
    refine (nameP_tells T (T.next 0 t ht (by have := signB_kind hs; omega))).bind fun s j _ hj => ?_
    exact (takeP_tells T hj _).bind fun _ k _ hk => Tells.ok hk
  · exact Tells.ok T.pos
theorem grammarP_tells (T : Toks ts) {n : Nat} (hn : ts.length < n) : ∃ r, grammarP ts n = some r := by
  have : Tells ts (grammarP ts n) := (startP_tells T).bind fun s i _ hi => (rulesL_tells T hi (by omega) (by omega)).map
  exact ⟨this.choose, this.choose_spec.1⟩
end

/-! ### A part that is read hangs on its tokens alone -/
/-- What the parser looks at in a token. -/
def key (t : S46) : Int × ByteArray := (t.f0, t.f1)
/-- From lo to hi the tokens of us, d places on, are those of ts. -/
def Alike (ts us : List S46) (d lo hi : Nat) : Prop := ∀ k, lo ≤ k → k ≤ hi → (us[k + d]?).map key = (ts[k]?).map key
theorem Alike.mono {ts us : List S46} {d lo hi lo' hi' : Nat} (h : Alike ts us d lo hi) (h1 : lo ≤ lo') (h2 : hi' ≤ hi) : Alike ts us d lo' hi' := fun k a b => h k (by omega) (by omega)
section
variable {ts us : List S46} {op i d : Nat}
theorem Alike.at {lo hi : Nat} (h : Alike ts us d lo hi) {t : S46} (ht : ts[i]? = some t) (h1 : lo ≤ i) (h2 : i ≤ hi) : ∃ u, us[i + d]? = some u ∧ u.f0 = t.f0 ∧ u.f1 = t.f1 := by
  have := h i h1 h2
  rw [ht] at this
  cases hu : us[i + d]? with
  | none => rw [hu] at this; cases this
  | some u =>
    rw [hu] at this
    have e : key u = key t := Option.some.inj this
    simp only [key, Prod.mk.injEq] at e
    exact ⟨u, rfl, e.1, e.2⟩
theorem signB_key {t u : S46} (h0 : u.f0 = t.f0) (h1 : u.f1 = t.f1) (s : ByteArray) : signB u s = signB t s := by unfold signB; rw [h0, h1]
theorem farB_small {i : Nat} (h : i < 4096) (t : S46) : farB i t = false := by unfold farB; rw [decide_eq_false (by omega)]; rfl
/-- What is read stays, d places on. -/
def Moves {α : Type} (d : Nat) (x y : Option (PR α)) : Prop := ∀ a j, x = some (.ok a j) → y = some (.ok a (j + d))
theorem peek_loc {β : Type} {k k' : S46 → Option (PR β)} {a : β} {j : Nat} (h : peekP ts i k = some (.ok a j)) (hal : Alike ts us d i i) (hf : i + d < 4096)
    (hk : ∀ t u, ts[i]? = some t → us[i + d]? = some u → u.f0 = t.f0 → u.f1 = t.f1 → k t = some (.ok a j) → k' u = some (.ok a (j + d))) : peekP us (i + d) k' = some (.ok a (j + d)) := by
  obtain ⟨t, ht, ⟨_, hr⟩ | ⟨_, hr⟩⟩ := peekP_some h
  · cases hr
  · obtain ⟨u, hu, h0, h1⟩ := hal.at ht (Nat.le_refl _) (Nat.le_refl _)
    unfold peekP
    rw [hu]
    simp only [farB_small hf]
    exact hk t u ht hu h0 h1 hr
theorem bind_loc {α β : Type} {x : Option (PR α)} {y : Option (PR α)} {k k' : α → Nat → Option (PR β)} {b : β} {j : Nat} (h : andThen x k = some (.ok b j)) (H : ∀ a l, x = some (.ok a l) → k a l = some (.ok b j) → y = some (.ok a (l + d)) ∧ k' a (l + d) = some (.ok b (j + d))) : andThen y k' = some (.ok b (j + d)) := by
  rcases andThen_some h with ⟨_, _, _, _, hh⟩ | ⟨a, l, h1, h2⟩
  · cases hh
  · obtain ⟨e1, e2⟩ := H a l h1 h2
    rw [e1]
    exact e2
theorem map_loc {α β : Type} {f : α → β} {x y : Option (PR α)} {b : β} {j : Nat} (h : x.map (PR.map f) = some (.ok b j)) (H : ∀ a, x = some (.ok a j) → y = some (.ok a (j + d))) : y.map (PR.map f) = some (.ok b (j + d)) := by
  obtain ⟨q, hq, hr⟩ := map_some h
  cases q with
  | bad l k e => cases hr
  | ok a l =>
    cases hr
    rw [H a hq]
    rfl
theorem takeP_loc {s : ByteArray} {u : Unit} {j : Nat} (h : takeP ts i s = some (.ok u j)) (hal : Alike ts us d i i) (hf : i + d < 4096) : takeP us (i + d) s = some (.ok u (j + d)) := by
  refine peek_loc h hal hf fun t u' _ _ h0 h1 hk => ?_
  rw [signB_key h0 h1]
  split at hk
  · rename_i hs; rw [if_pos hs]; cases hk; rw [Nat.add_right_comm]
  · cases hk
theorem nameP_loc {s : ByteArray} {j : Nat} (h : nameP ts i = some (.ok s j)) (hal : Alike ts us d i i) (hf : i + d < 4096) : nameP us (i + d) = some (.ok s (j + d)) := by
  refine peek_loc h hal hf fun t u' _ _ h0 h1 hk => ?_
  rw [h0, h1]
  split at hk
  · rename_i hs; rw [if_pos hs]; cases hk; rw [Nat.add_right_comm]
  · cases hk
def AltLoc (ts us : List S46) (d : Nat) (A B : Nat → Nat → Option (PR S49)) : Prop := ∀ op i n j, Alike ts us d i j → j + d < 4096 → A op i = some (.ok n j) → B op (i + d) = some (.ok n (j + d))
variable {A B : Nat → Nat → Option (PR S49)}
theorem aroundP_loc (H : AltLoc ts us d A B) (HM : AltM A) {s : ByteArray} {n : S49} {j : Nat} (h : aroundP A ts op i s = some (.ok n j)) (hal : Alike ts us d i (j - 1)) (hf : j + d ≤ 4096) : aroundP B us op (i + d) s = some (.ok n (j + d)) := by
  have hij := aroundP_ok HM h
  unfold aroundP at h ⊢
  split at h
  · cases h
  · rename_i t ht
    obtain ⟨u, hu, h0, h1⟩ := hal.at ht (Nat.le_refl _) (by omega)
    rw [hu]
    simp only []
    split at h
    · cases h
    · rename_i ho
      rw [if_neg ho]
      have hh := h
      refine bind_loc h fun a l h1 h2 => ?_
      rcases andThen_some h2 with ⟨_, _, _, _, hh⟩ | ⟨u', l', h3, h4⟩
      · cases hh
      · have e1 := takeP_ok h3
        have e2 := HM _ _ _ _ h1
        cases h4
        refine ⟨by rw [show i + d + 1 = i + 1 + d by omega]; exact H _ _ _ _ (hal.mono (by omega) (by omega)) (by omega) h1, ?_⟩
        have := takeP_loc h3 (hal.mono (by omega) (by omega)) (by omega)
        rw [this]
        rfl
theorem atomP_loc (H : AltLoc ts us d A B) (HM : AltM A) {x : Option S49} {j : Nat} (h : atomP A ts op i = some (.ok x j)) (hal : Alike ts us d i (max i (j - 1))) (hf : max (i + 1) j + d ≤ 4096) : atomP B us op (i + d) = some (.ok x (j + d)) := by
  have hsome : ∀ {s : ByteArray} {f : S49 → Option S49}, (aroundP A ts op i s).map (PR.map f) = some (.ok x j) → (aroundP B us op (i + d) s).map (PR.map f) = some (.ok x (j + d)) := fun {s f} hh =>
    map_loc hh fun a ha => aroundP_loc H HM ha (hal.mono (Nat.le_refl _) (Nat.le_max_right _ _)) (by omega)
  refine peek_loc h (hal.mono (Nat.le_refl _) (Nat.le_max_left _ _)) (by omega) fun t u _ _ h0 h1 hk => ?_
  simp only [signB_key h0 h1, h0, h1]
  split at hk
  · rename_i c1
    rw [if_pos c1]
    cases hk
    rw [Nat.add_right_comm]
  · rename_i c1
    rw [if_neg c1]
    split at hk
    · rename_i c2
      rw [if_pos c2]
      cases hk
      rw [Nat.add_right_comm]
    · rename_i c2
      rw [if_neg c2]
      split at hk
      · rename_i c3
        rw [if_pos c3]
        exact hsome hk
      · rename_i c3
        rw [if_neg c3]
        split at hk
        · rename_i c4
          rw [if_pos c4]
          exact hsome hk
        · rename_i c4
          rw [if_neg c4]
          split at hk
          · rename_i c5
            rw [if_pos c5]
            exact hsome hk
          · rename_i c5
            rw [if_neg c5]
            cases hk
            rfl
theorem suffP_loc {x y : S49} {j : Nat} (h : suffP ts i x = some (.ok y j)) (hal : Alike ts us d i i) (hf : i + d < 4096) : suffP us (i + d) x = some (.ok y (j + d)) := by
  refine peek_loc h hal hf fun t u _ _ h0 h1 hk => ?_
  simp only [signB_key h0 h1]
  repeat' split at hk
  all_goals (cases hk; simp_all [Nat.add_right_comm])
theorem rowL_loc (H : AltLoc ts us d A B) (HM : AltM A) : ∀ {n i : Nat} {acc l : List S49} {j : Nat}, rowL A ts op n i acc = some (.ok l j) → Alike ts us d i j → j + d < 4096 → rowL B us op n (i + d) acc = some (.ok l (j + d))
  | 0, _, _, _, _, h, _, _ => by simp [rowL] at h
  | n + 1, i, acc, l, j, h, hal, hf => by
    have hh := h
    have hij := rowL_ok HM hh
    unfold rowL at h ⊢
    refine bind_loc h fun x k h1 h2 => ?_
    cases x with
    | none =>
      have e := atomP_none h1
      subst e
      cases h2
      exact ⟨atomP_loc H HM h1 (hal.mono (Nat.le_refl _) (by omega)) (by omega), rfl⟩
    | some x =>
      have e1 := (atomP_ok HM h1).2
      rcases andThen_some h2 with ⟨_, _, _, _, hh⟩ | ⟨y, k2, h3, h4⟩
      · cases hh
      · have e2 := suffP_ok h3
        have e3 := rowL_ok HM h4
        refine ⟨atomP_loc H HM h1 (hal.mono (Nat.le_refl _) (by omega)) (by omega), ?_⟩
        have s1 := suffP_loc h3 (hal.mono (by omega) (by omega)) (by omega)
        simp only []
        rw [s1]
        exact rowL_loc H HM h4 (hal.mono (by omega) (Nat.le_refl _)) hf
theorem altL_loc (H : AltLoc ts us d A B) (HM : AltM A) {m : Nat} : ∀ {n i : Nat} {acc l : List S49} {j : Nat}, altL A ts m op n i acc = some (.ok l j) → Alike ts us d i j → j + d < 4096 → altL B us m op n (i + d) acc = some (.ok l (j + d))
  | 0, _, _, _, _, h, _, _ => by simp [altL] at h
  | n + 1, i, acc, l, j, h, hal, hf => by
    have hij := altL_ok HM h
    unfold altL at h ⊢
    refine peek_loc h (hal.mono (Nat.le_refl _) hij) (by omega) fun t u _ _ h0 h1 hk => ?_
    rw [signB_key h0 h1]
    split at hk
    · rename_i hs
      rw [if_pos hs]
      refine bind_loc hk fun x k h2 h3 => ?_
      have e1 := rowP_ok HM h2
      have e2 := altL_ok HM h3
      refine ⟨?_, altL_loc H HM h3 (hal.mono (by omega) (Nat.le_refl _)) hf⟩
      rw [show i + d + 1 = i + 1 + d by omega]
      exact map_loc h2 fun a ha => rowL_loc H HM ha (hal.mono (by omega) (by omega)) (by omega)
    · rename_i hs
      rw [if_neg hs]
      cases hk
      rfl
theorem altP_loc : ∀ n, AltLoc ts us d (altP ts n) (altP us n)
  | 0 => fun _ _ _ _ _ _ h => by simp [altP] at h
  | n + 1 => fun op i x j hal hf h => by
    unfold altP at h ⊢
    refine map_loc h fun a ha => bind_loc ha fun y k h1 h2 => ?_
    have e1 := rowP_ok (altP_ok n) h1
    have e2 := altL_ok (altP_ok n) h2
    exact ⟨map_loc h1 fun b hb => rowL_loc (altP_loc n) (altP_ok n) hb (hal.mono (Nat.le_refl _) e2) (by omega), altL_loc (altP_loc n) (altP_ok n) h2 (hal.mono e1 (Nat.le_refl _)) hf⟩
end
end Go.Proofs.Ytgllncnfhiiobaa.Sw

set_option linter.unusedVariables false
set_option linter.unusedSimpArgs false
namespace Go.Proofs.Ytgllncnfhiiobaa.Lx

theorem skip_pos (l : List UInt8) : ∀ (b : Bool) (p p' : Int × Int), (skip b l p).1 = (skip b l p').1 := by
  induction l with
  | nil => intro b p p'; cases b <;> rfl
  | cons c cs ih =>
    intro b p p'
    cases b
    · unfold skip
      split
      · exact ih _ _ _
      · split
        · exact ih _ _ _
        · rfl
    · unfold skip
      split
      · exact ih _ _ _
      · exact ih _ _ _
theorem nameL_pos (l : List UInt8) : ∀ (p p' : Int × Int), (nameL l p).1 = (nameL l p').1 ∧ (nameL l p).2.1 = (nameL l p').2.1 := by
  induction l with
  | nil => intro p p'; exact ⟨rfl, rfl⟩
  | cons c cs ih =>
    intro p p'
    unfold nameL
    split
    · have := ih (adv c p) (adv c p')
      exact ⟨by simp [this.1], by simp [this.2]⟩
    · exact ⟨rfl, rfl⟩
/-- Alike, but for the places. -/
def EscLike : Esc → Esc → Prop
  | .ok b r _, .ok b' r' _ => b = b' ∧ r = r'
  | .bad r _, .bad r' _ => r = r'
  | _, _ => False
theorem esc_pos (l : List UInt8) (p p' : Int × Int) : EscLike (esc l p) (esc l p') := by
  have hx : ∀ (l : List UInt8) (p p' : Int × Int), EscLike (escX l p) (escX l p') := by
    intro l p p'
    unfold escX
    cases l with
    | nil => rfl
    | cons c cs =>
      simp only
      cases hexv c with
      | none => rfl
      | some a =>
        cases cs with
        | nil => rfl
        | cons d ds =>
          simp only
          cases hexv d with
          | none => rfl
          | some b => exact ⟨rfl, rfl⟩
  unfold esc
  cases l with
  | nil => rfl
  | cons c cs =>
    simp only
    repeat' split
    all_goals first
      | exact ⟨rfl, rfl⟩
      | exact hx _ _ _
      | rfl
theorem lit_pos (q : UInt8) (n : Nat) : ∀ (l : List UInt8) (p p' : Int × Int) (out : List UInt8), (lit q n l p out).1 = (lit q n l p' out).1 := by
  induction n with
  | zero => intro l p p' out; rfl
  | succ n ih =>
    intro l p p' out
    cases l with
    | nil => rfl
    | cons c cs =>
      simp only [lit]
      split
      · rfl
      · split
        · have := esc_pos cs (adv c p) (adv c p')
          cases h1 : esc cs (adv c p) with
          | ok b r p1 =>
            cases h2 : esc cs (adv c p') with
            | ok b' r' p1' =>
              rw [h1, h2] at this
              obtain ⟨rfl, rfl⟩ := this
              exact ih _ _ _ _
            | bad r' p1' => rw [h1, h2] at this; exact this.elim
          | bad r p1 =>
            cases h2 : esc cs (adv c p') with
            | ok b' r' p1' => rw [h1, h2] at this; exact this.elim
            | bad r' p1' => rfl
        · split
          · rfl
          · exact ih _ _ _ _
theorem token_pos {c : UInt8} {cs : List UInt8} {p : Int × Int} {t : Tok} {r : List UInt8} {p1 : Int × Int} (h : token c cs p = .ok (t, r, p1)) (p' : Int × Int) : ∃ p1', token c cs p' = .ok (⟨t.kind, t.text, p'⟩, r, p1') := by
  unfold token at h ⊢
  split at h
  · rename_i hl
    rw [if_pos hl]
    have hn := nameL_pos (c :: cs) p p'
    split at h
    · cases h
    · rename_i hlen
      rw [← hn.1, if_neg hlen]
      simp only [Except.ok.injEq, Prod.mk.injEq] at h
      obtain ⟨rfl, h2⟩ := h
      have hr : (nameL (c :: cs) p).2.1 = r := by rw [h2]
      refine ⟨(nameL (c :: cs) p').2.2, ?_⟩
      rw [← hr, hn.2]
  · rename_i hl
    rw [if_neg hl]
    split at h
    · rename_i hq
      rw [if_pos hq]
      have hn := lit_pos c (cs.length + 1) cs (adv c p) (adv c p') []
      cases h1 : lit c (cs.length + 1) cs (adv c p) [] with
      | mk x y =>
        cases h2 : lit c (cs.length + 1) cs (adv c p') [] with
        | mk x' y' =>
          rw [h1, h2] at hn
          dsimp only at hn
          subst hn
          rw [h1] at h
          cases x with
          | none => cases h
          | some tr =>
            obtain ⟨t1, r1⟩ := tr
            simp only at h ⊢
            split at h
            · cases h
            · rename_i h3
              rw [if_neg h3]
              split at h
              · cases h
              · rename_i h4
                rw [if_neg h4]
                cases h
                exact ⟨_, rfl⟩
    · rename_i hq
      rw [if_neg hq]
      split at h
      · rename_i hs
        rw [if_pos hs]
        cases h
        exact ⟨_, rfl⟩
      · cases h
theorem scanF_pos (n : Nat) : ∀ (l : List UInt8) (p : Int × Int) (acc ts : List Tok), scanF n l p acc = .ok ts → ∃ us, ts = acc ++ us ∧ ∀ (p' : Int × Int) (acc' : List Tok), ∃ us', scanF n l p' acc' = .ok (acc' ++ us') ∧ us'.map kt = us.map kt := by
  induction n with
  | zero => intro l p acc ts h; cases h
  | succ n ih =>
    intro l p acc ts h
    unfold scanF at h
    have hsp := skip_pos l false p
    cases hsk : skip false l p with
    | mk l' p1 =>
      rw [hsk] at h hsp
      cases l' with
      | nil =>
        cases h
        refine ⟨[⟨4, [], p1⟩], rfl, fun p' acc' => ⟨[⟨4, [], (skip false l p').2⟩], ?_, rfl⟩⟩
        unfold scanF
        have := hsp p'
        cases h2 : skip false l p' with
        | mk a b =>
          rw [h2] at this
          dsimp only at this
          subst this
          rfl
      | cons c cs =>
        simp only at h
        cases ht : token c cs p1 with
        | error f => rw [ht] at h; cases h
        | ok q =>
          obtain ⟨t, r, p2⟩ := q
          rw [ht] at h
          obtain ⟨us, h1, h2⟩ := ih _ _ _ _ h
          refine ⟨t :: us, by rw [h1]; simp, fun p' acc' => ?_⟩
          have := hsp p'
          unfold scanF
          cases h3 : skip false l p' with
          | mk a b =>
            rw [h3] at this
            dsimp only at this
            subst this
            obtain ⟨p2', ht'⟩ := token_pos ht b
            obtain ⟨us', h4, h5⟩ := h2 p2' (acc' ++ [⟨t.kind, t.text, b⟩])
            refine ⟨⟨t.kind, t.text, b⟩ :: us', ?_, by simp [h5, kt]⟩
            simp only [ht']
            rw [h4]
            simp
end Go.Proofs.Ytgllncnfhiiobaa.Lx
namespace Go.Proofs.Ytgllncnfhiiobaa.Sw
open Go.RowKit Go.Proofs.YtgllncnfhiiobaaW.PrintWords Go.Proofs.Ytgllncnfhiiobaa Go.Proofs.Ytgllncnfhiiobaa.P
theorem toks_of_scan {s : List UInt8} {ts : List Lx.Tok} (h : Lx.scan s = .ok ts) : Toks (ts.map toS) := by
  obtain ⟨init, e, rfl, hv, he, _⟩ := Lx.scan_valid h
  refine ⟨by simp, fun i t ht hk => ?_⟩
  rw [List.getElem?_map] at ht
  obtain ⟨u, hu, rfl⟩ : ∃ u, (init ++ [e])[i]? = some u ∧ toS u = t := by
    cases hx : (init ++ [e])[i]? with
    | none => rw [hx] at ht; cases ht
    | some u => rw [hx] at ht; exact ⟨u, rfl, Option.some.inj ht⟩
  rw [List.length_map, List.length_append]
  rcases Nat.lt_or_ge i init.length with hi | hi
  · simp; omega
  · exfalso
    rw [List.getElem?_append_right hi] at hu
    have hlen := (List.getElem?_eq_some_iff.1 hu).1
    have e0 : i - init.length = 0 := by simp at hlen; omega
    rw [e0] at hu
    cases hu
    exact hk he.1
theorem parse_total (s : ByteArray) : ∃ r, (match Lx.scan s.data.toList with
    | .error f => some (.bad f.p.1 f.p.2 f.code)
    | .ok ts => grammarP (ts.map toS) (ts.length + 2)) = some (r : PR S25) := by
  cases h : Lx.scan s.data.toList with
  | error f => exact ⟨_, rfl⟩
  | ok ts => exact grammarP_tells (toks_of_scan h) (by simp)
end Go.Proofs.Ytgllncnfhiiobaa.Sw

set_option linter.unusedVariables false
set_option linter.unusedSimpArgs false
namespace Go.Proofs.Ytgllncnfhiiobaa.Sw
open Go.RowKit Go.Proofs.YtgllncnfhiiobaaW.PrintWords Go.Proofs.Ytgllncnfhiiobaa Go.Proofs.Ytgllncnfhiiobaa.P

section
variable {ts us : List S46} {op i d : Nat}
theorem rulesL_ok {m : Nat} : ∀ {n i : Nat} {first : Bool} {acc l : List S51} {j : Nat}, rulesL ts m n first i acc = some (.ok l j) → i ≤ j ∧ acc.length ≤ l.length ∧ (first = true → i < j) ∧ ∃ t, ts[j]? = some t ∧ t.f0 = 4
  | 0, _, _, _, _, _, h => by simp [rulesL] at h
  | n + 1, i, first, acc, l, j, h => by
    unfold rulesL at h
    obtain ⟨t, ht, ⟨_, hk⟩ | ⟨_, hk⟩⟩ := peekP_some h
    · cases hk
    · split at hk
      · rename_i hs
        cases hk
        simp only [Bool.and_eq_true, Bool.not_eq_true', beq_iff_eq] at hs
        exact ⟨Nat.le_refl _, Nat.le_refl _, fun hf => (by rw [hf] at hs; cases hs.1), t, ht, hs.2⟩
      · split at hk
        · cases hk
        · rcases andThen_some hk with ⟨_, _, _, _, hh⟩ | ⟨nm, j1, h1, hk⟩
          · cases hh
          · rcases andThen_some hk with ⟨_, _, _, _, hh⟩ | ⟨_, j2, h2, hk⟩
            · cases hh
            · rcases andThen_some hk with ⟨_, _, _, _, hh⟩ | ⟨b, j3, h3, hk⟩
              · cases hh
              · rcases andThen_some hk with ⟨_, _, _, _, hh⟩ | ⟨_, j4, h4, hk⟩
                · cases hh
                · have e1 := nameP_ok h1
                  have e2 := takeP_ok h2
                  have e3 := altP_ok m _ _ _ _ h3
                  have e4 := takeP_ok h4
                  obtain ⟨e5, e6, _, e7⟩ := rulesL_ok hk
                  rw [List.length_append, List.length_singleton] at e6
                  exact ⟨by omega, by omega, fun _ => by omega, e7⟩
theorem rulesL_count {m : Nat} : ∀ {n i : Nat} {first : Bool} {acc l : List S51} {j : Nat}, rulesL ts m n first i acc = some (.ok l j) → acc.length ≤ 64 → l.length ≤ 64
  | 0, _, _, _, _, _, h, _ => by simp [rulesL] at h
  | n + 1, i, first, acc, l, j, h, ha => by
    unfold rulesL at h
    obtain ⟨t, ht, ⟨_, hk⟩ | ⟨_, hk⟩⟩ := peekP_some h
    · cases hk
    · split at hk
      · cases hk; exact ha
      · split at hk
        · cases hk
        · rename_i hb
          rcases andThen_some hk with ⟨_, _, _, _, hh⟩ | ⟨nm, j1, h1, hk⟩
          · cases hh
          · rcases andThen_some hk with ⟨_, _, _, _, hh⟩ | ⟨_, j2, h2, hk⟩
            · cases hh
            · rcases andThen_some hk with ⟨_, _, _, _, hh⟩ | ⟨b, j3, h3, hk⟩
              · cases hh
              · rcases andThen_some hk with ⟨_, _, _, _, hh⟩ | ⟨_, j4, h4, hk⟩
                · cases hh
                · have hkind := nameP_kind ht h1
                  refine rulesL_count hk ?_
                  rw [List.length_append, List.length_singleton]
                  have : acc.length ≠ 64 := fun e => hb ⟨hkind, e⟩
                  omega
/-- Rules that are read with others ahead of them. -/
theorem rulesL_loc {m : Nat} (p : List S51) : ∀ {n i : Nat} {first first' : Bool} {acc l : List S51} {j : Nat}, rulesL ts m n first i acc = some (.ok l j) → Alike ts us d i j → j + d < 4096 → p.length + l.length ≤ 64 → (first' = true → first = true) →
    rulesL us m n first' (i + d) (p ++ acc) = some (.ok (p ++ l) (j + d))
  | 0, _, _, _, _, _, _, h, _, _, _, _ => by simp [rulesL] at h
  | n + 1, i, first, first', acc, l, j, h, hal, hf, hl, hfi => by
    have hok := rulesL_ok h
    unfold rulesL at h
    obtain ⟨t, ht, ⟨_, hk⟩ | ⟨_, hk⟩⟩ := peekP_some h
    · cases hk
    · obtain ⟨u, hu, h0, h1⟩ := hal.at ht (Nat.le_refl _) hok.1
      have hpk : ∀ k : S46 → Option (PR (List S51)), peekP us (i + d) k = k u := fun k => by
        unfold peekP
        rw [hu]
        simp only [farB_small (show i + d < 4096 by omega)]
        rfl
      unfold rulesL
      rw [hpk]
      split at hk
      · rename_i hs
        cases hk
        simp only [Bool.and_eq_true, Bool.not_eq_true', beq_iff_eq] at hs
        have : first' = false := by
          cases first'
          · rfl
          · rw [hfi rfl] at hs; cases hs.1
        rw [if_pos (by rw [this, h0, hs.2]; rfl)]
      · split at hk
        · cases hk
        · rename_i hs hb
          rcases andThen_some hk with ⟨_, _, _, _, hh⟩ | ⟨nm, j1, h1', hk⟩
          · cases hh
          · rcases andThen_some hk with ⟨_, _, _, _, hh⟩ | ⟨_, j2, h2, hk⟩
            · cases hh
            · rcases andThen_some hk with ⟨_, _, _, _, hh⟩ | ⟨b, j3, h3, hk⟩
              · cases hh
              · rcases andThen_some hk with ⟨_, _, _, _, hh⟩ | ⟨_, j4, h4, hk⟩
                · cases hh
                · have e1 := nameP_ok h1'
                  have e2 := takeP_ok h2
                  have e3 := altP_ok m _ _ _ _ h3
                  have e4 := takeP_ok h4
                  obtain ⟨e5, e6, _, _⟩ := rulesL_ok hk
                  rw [List.length_append, List.length_singleton] at e6
                  have hkind := nameP_kind ht h1'
                  rw [if_neg (by rw [h0, hkind]; simp), if_neg (by rw [List.length_append]; omega)]
                  rw [nameP_loc h1' (hal.mono (Nat.le_refl _) (by omega)) (by omega)]
                  simp only [andThen]
                  rw [takeP_loc h2 (hal.mono (by omega) (by omega)) (by omega)]
                  simp only [andThen]
                  rw [altP_loc m _ _ _ _ (hal.mono (by omega) (by omega)) (by omega) h3]
                  simp only [andThen]
                  rw [takeP_loc h4 (hal.mono (by omega) (by omega)) (by omega)]
                  simp only [andThen]
                  rw [List.append_assoc]
                  exact rulesL_loc p hk (hal.mono (by omega) (Nat.le_refl _)) hf hl (fun h => (by cases h))
/-- Rules that are read where others follow. -/
theorem rulesL_run {m : Nat} : ∀ {n i : Nat} {first : Bool} {acc l : List S51} {j : Nat}, rulesL ts m n first i acc = some (.ok l j) → Alike ts us d i (j - 1) → j + d ≤ 4096 →
    ∃ s, s ≤ n ∧ (s = 0 → j = i) ∧ ∀ n', rulesL us m (s + n') first (i + d) acc = if s = 0 then rulesL us m n' first (j + d) l else rulesL us m n' false (j + d) l
  | 0, _, _, _, _, _, h, _, _ => by simp [rulesL] at h
  | n + 1, i, first, acc, l, j, h, hal, hf => by
    have hok := rulesL_ok h
    unfold rulesL at h
    obtain ⟨t, ht, ⟨_, hk⟩ | ⟨_, hk⟩⟩ := peekP_some h
    · cases hk
    · split at hk
      · cases hk
        exact ⟨0, Nat.zero_le _, fun _ => rfl, fun n' => by rw [if_pos rfl, Nat.zero_add]⟩
      · split at hk
        · cases hk
        · rename_i hs hb
          rcases andThen_some hk with ⟨_, _, _, _, hh⟩ | ⟨nm, j1, h1', hk⟩
          · cases hh
          · rcases andThen_some hk with ⟨_, _, _, _, hh⟩ | ⟨_, j2, h2, hk⟩
            · cases hh
            · rcases andThen_some hk with ⟨_, _, _, _, hh⟩ | ⟨b, j3, h3, hk⟩
              · cases hh
              · rcases andThen_some hk with ⟨_, _, _, _, hh⟩ | ⟨_, j4, h4, hk⟩
                · cases hh
                · have e1 := nameP_ok h1'
                  have e2 := takeP_ok h2
                  have e3 := altP_ok m _ _ _ _ h3
                  have e4 := takeP_ok h4
                  obtain ⟨e5, e6, _, _⟩ := rulesL_ok hk
                  have hkind := nameP_kind ht h1'
                  obtain ⟨u, hu, h0, h1⟩ := hal.at ht (Nat.le_refl _) (by omega)
                  have hpk : ∀ k : S46 → Option (PR (List S51)), peekP us (i + d) k = k u := fun k => by
                    unfold peekP
                    rw [hu]
                    simp only [farB_small (show i + d < 4096 by omega)]
                    rfl
                  obtain ⟨s, hs, _, hrun⟩ := rulesL_run hk (hal.mono (by omega) (Nat.le_refl _)) hf
                  refine ⟨s + 1, by omega, fun h => absurd h (Nat.succ_ne_zero _), fun n' => ?_⟩
                  rw [if_neg (Nat.succ_ne_zero _), show s + 1 + n' = s + n' + 1 by omega]
                  conv => lhs; unfold rulesL
                  rw [hpk]
                  rw [if_neg (by rw [h0, hkind]; simp), if_neg (by rw [h0]; exact hb)]
                  rw [nameP_loc h1' (hal.mono (Nat.le_refl _) (by omega)) (by omega)]
                  simp only [andThen]
                  rw [takeP_loc h2 (hal.mono (by omega) (by omega)) (by omega)]
                  simp only [andThen]
                  rw [altP_loc m _ _ _ _ (hal.mono (by omega) (by omega)) (by omega) h3]
                  simp only [andThen]
                  rw [takeP_loc h4 (hal.mono (by omega) (by omega)) (by omega)]
                  simp only [andThen]
                  rw [hrun n']
                  split <;> rfl
theorem rulesL_first {m n i : Nat} {l : List S51} {j : Nat} (h : rulesL ts m n true i [] = some (.ok l j)) : 0 < l.length := by
  cases n with
  | zero => simp [rulesL] at h
  | succ n =>
    unfold rulesL at h
    obtain ⟨t, ht, ⟨_, hk⟩ | ⟨_, hk⟩⟩ := peekP_some h
    · cases hk
    · rw [if_neg (by simp)] at hk
      split at hk
      · cases hk
      · rcases andThen_some hk with ⟨_, _, _, _, hh⟩ | ⟨nm, j1, h1, hk⟩
        · cases hh
        · rcases andThen_some hk with ⟨_, _, _, _, hh⟩ | ⟨_, j2, h2, hk⟩
          · cases hh
          · rcases andThen_some hk with ⟨_, _, _, _, hh⟩ | ⟨b, j3, h3, hk⟩
            · cases hh
            · rcases andThen_some hk with ⟨_, _, _, _, hh⟩ | ⟨_, j4, h4, hk⟩
              · cases hh
              · have := (rulesL_ok hk).2.1
                rw [List.length_append, List.length_singleton] at this
                omega
/-! ### Faults have codes -/
def Coded {α : Type} (x : Option (PR α)) : Prop := ∀ l c e, x = some (.bad l c e) → e ≠ 0
theorem Coded.bad {α : Type} {l c e : Int} (h : e ≠ 0) : Coded (some (.bad l c e : PR α)) := fun _ _ _ he => by cases he; exact h
theorem Coded.ok {α : Type} {a : α} {j : Nat} : Coded (some (.ok a j)) := fun _ _ _ he => by cases he
theorem Coded.none {α : Type} : Coded (none : Option (PR α)) := fun _ _ _ he => by cases he
theorem Coded.peek {β : Type} {k : S46 → Option (PR β)} (hk : ∀ t, Coded (k t)) : Coded (peekP ts i k) := by
  intro l c e h
  obtain ⟨t, ht, ⟨_, hr⟩ | ⟨_, hr⟩⟩ := peekP_some h
  · cases hr; decide
  · exact hk t _ _ _ hr
theorem Coded.bind {α β : Type} {x : Option (PR α)} {k : α → Nat → Option (PR β)} (hx : Coded x) (hk : ∀ a j, Coded (k a j)) : Coded (andThen x k) := by
  intro l c e h
  rcases andThen_some h with ⟨l', c', e', h1, h2⟩ | ⟨a, j, h1, h2⟩
  · cases h2; exact hx _ _ _ h1
  · exact hk a j _ _ _ h2
theorem Coded.map {α β : Type} {f : α → β} {x : Option (PR α)} (hx : Coded x) : Coded (x.map (PR.map f)) := by
  intro l c e h
  obtain ⟨q, hq, hr⟩ := map_some h
  cases q with
  | bad l' c' e' => cases hr; exact hx _ _ _ hq
  | ok a j => cases hr
theorem takeP_coded (s : ByteArray) : Coded (takeP ts i s) := Coded.peek fun t => by split; exact Coded.ok; exact Coded.bad (by decide)
theorem nameP_coded : Coded (nameP ts i) := Coded.peek fun t => by split; exact Coded.ok; exact Coded.bad (by decide)
theorem aroundP_coded {A : Nat → Nat → Option (PR S49)} (H : ∀ op i, Coded (A op i)) (s : ByteArray) : Coded (aroundP A ts op i s) := by
  unfold aroundP
  split
  · exact Coded.none
  · split
    · exact Coded.bad (by decide)
    · exact (H _ _).bind fun _ _ => (takeP_coded _).bind fun _ _ => Coded.ok
theorem atomP_coded {A : Nat → Nat → Option (PR S49)} (H : ∀ op i, Coded (A op i)) : Coded (atomP A ts op i) := Coded.peek fun t => by
  repeat' split
  all_goals first
    | exact Coded.ok
    | exact (aroundP_coded H _).map
theorem suffP_coded (n : S49) : Coded (suffP ts i n) := Coded.peek fun t => by
  repeat' split
  all_goals exact Coded.ok
theorem rowL_coded {A : Nat → Nat → Option (PR S49)} (H : ∀ op i, Coded (A op i)) : ∀ (n i : Nat) (acc : List S49), Coded (rowL A ts op n i acc)
  | 0, _, _ => Coded.none
  | n + 1, i, acc => (atomP_coded H).bind fun x j => by
    cases x with
    | none => exact Coded.ok
    | some x => exact (suffP_coded x).bind fun y k => rowL_coded H n k _
theorem altL_coded {A : Nat → Nat → Option (PR S49)} (H : ∀ op i, Coded (A op i)) (m : Nat) : ∀ (n i : Nat) (acc : List S49), Coded (altL A ts m op n i acc)
  | 0, _, _ => Coded.none
  | n + 1, i, acc => Coded.peek fun t => by
    split
    · exact (Coded.map (rowL_coded H _ _ _)).bind fun x j => altL_coded H m n j _
    · exact Coded.ok
theorem altP_coded : ∀ (n op i : Nat), Coded (altP ts n op i)
  | 0, _, _ => Coded.none
  | n + 1, op, i => Coded.map ((Coded.map (rowL_coded (altP_coded n) _ _ _)).bind fun x j => altL_coded (altP_coded n) _ _ _ _)
theorem rulesL_coded (m : Nat) : ∀ (n i : Nat) (first : Bool) (acc : List S51), Coded (rulesL ts m n first i acc)
  | 0, _, _, _ => Coded.none
  | n + 1, i, first, acc => Coded.peek fun t => by
    split
    · exact Coded.ok
    · split
      · exact Coded.bad (by decide)
      · exact nameP_coded.bind fun _ _ => (takeP_coded _).bind fun _ _ => (altP_coded _ _ _).bind fun _ _ => (takeP_coded _).bind fun _ _ => rulesL_coded m n _ _ _
theorem startP_coded : Coded (startP ts) := Coded.peek fun t => by
  split
  · exact nameP_coded.bind fun _ _ => (takeP_coded _).bind fun _ _ => Coded.ok
  · exact Coded.ok
theorem grammarP_code {n : Nat} {l k x : Int} (h : grammarP ts n = some (.bad l k x)) : x ≠ 0 :=
  (startP_coded.bind fun _ _ => (rulesL_coded _ _ _ _ _).map : Coded (grammarP ts n)) _ _ _ h
/-! ### Reading again what was compared -/
theorem beq_toList (t : ByteArray) : (t.toList == t.toList) = true := beq_self_eq_true _
mutual
theorem sameN_refl : ∀ x : S49, sameN x x = true
  | ⟨k, t, l⟩ => by simp only [sameN, beq_self_eq_true, Bool.true_and]; exact sameL_refl l
theorem sameL_refl : ∀ l : List S49, sameL l l = true
  | [] => rfl
  | x :: xs => by simp only [sameL, sameN_refl x, sameL_refl xs, Bool.and_self]
end
theorem sameR_refl : ∀ l : List S51, sameR l l = true
  | [] => rfl
  | x :: xs => by simp only [sameR, sameRule, sameN_refl, sameR_refl xs, beq_self_eq_true, Bool.and_self]
end
end Go.Proofs.Ytgllncnfhiiobaa.Sw
