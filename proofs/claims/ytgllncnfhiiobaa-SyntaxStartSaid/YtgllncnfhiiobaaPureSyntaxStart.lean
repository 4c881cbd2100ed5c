/- SyntaxStart: a start declaration ahead of a text determines the start, whatever rules follow; for every name and every text. -/
import Derived.Test.YtgllncnfhiiobaaPx4
import Derived.Test.YtgllncnfhiiobaaGoods
import Derived.Test.YtgllncnfhiiobaaSynP
set_option linter.unusedVariables false
set_option linter.unusedSimpArgs false
namespace Go.Proofs.Ytgllncnfhiiobaa.Pure
open Go.RowKit Go.Proofs.Ytgllncnfhiiobaa.P Go.Proofs.YtgllncnfhiiobaaW.PrintWords Go.Proofs.YtgllncnfhiiobaaW.PrintLast Go.Proofs.Ytgllncnfhiiobaa Go.Proofs.Ytgllncnfhiiobaa.Sw

theorem parse_some (s : ByteArray) : ∃ r, parseR s = some r := parse_total s
theorem good_name {l : List UInt8} (h : good l = true) : ∃ c cs, l = c :: cs ∧ l.length ≤ 32 ∧ Lx.letter c = true ∧ l.all Lx.inName = true := by
  cases l with
  | nil => cases h
  | cons c cs =>
    simp only [good, Bool.and_eq_true, decide_eq_true_eq] at h
    exact ⟨c, cs, rfl, h.1.1, h.1.2, h.2⟩
theorem sign37 : Lx.isSign 37 = true := by decide
theorem sign59 : Lx.isSign 59 = true := by decide
/-- A sign ahead of a text. -/
theorem scanF_sign {c : UInt8} (hc : Lx.isSign c = true) (n : Nat) (l : List UInt8) (p : Int × Int) (acc : List Lx.Tok) : Lx.scanF (n + 1) (c :: l) p acc = Lx.scanF n l (Lx.adv c p) (acc ++ [⟨3, [c], p⟩]) := by
  obtain ⟨h1, h2, h3, h4⟩ := Lx.sign_first c hc
  conv => lhs; unfold Lx.scanF
  have hs : Lx.skip false (c :: l) p = (c :: l, p) := by
    unfold Lx.skip
    rw [if_neg h1, h2]
    rfl
  have ht : Lx.token c l p = .ok (⟨3, [c], p⟩, l, Lx.adv c p) := by
    unfold Lx.token
    rw [h3, if_neg (by simp), if_neg h4, if_pos hc]
  rw [hs]
  simp only [ht]
/-- A name ahead of a semicolon. -/
theorem scanF_name {l : List UInt8} (h : good l = true) (n : Nat) (r : List UInt8) (p : Int × Int) (acc : List Lx.Tok) : ∃ p', Lx.scanF (n + 1) (l ++ 59 :: r) p acc = Lx.scanF n (59 :: r) p' (acc ++ [⟨1, l, p⟩]) := by
  obtain ⟨c, cs, rfl, hlen, hl, hall⟩ := good_name h
  have hstop : Lx.Stop (59 :: r) := fun c cs e => by cases e; decide
  obtain ⟨p', hn⟩ := Lx.nameL_stop (c :: cs) (59 :: r) hstop p hall
  obtain ⟨h1, h2⟩ := Lx.letter_first c hl
  refine ⟨p', ?_⟩
  conv => lhs; unfold Lx.scanF
  have hs : Lx.skip false (c :: cs ++ 59 :: r) p = (c :: cs ++ 59 :: r, p) := by
    rw [List.cons_append]
    unfold Lx.skip
    rw [if_neg h1, h2]
    rfl
  have ht : Lx.token c (cs ++ 59 :: r) p = .ok (⟨1, c :: cs, p⟩, 59 :: r, p') := by
    unfold Lx.token
    rw [if_pos hl]
    rw [List.cons_append] at hn
    rw [hn]
    rw [if_neg (by simp only [List.length_cons] at hlen ⊢; omega)]
  rw [hs, List.cons_append]
  simp only [ht]
theorem started {a s : List UInt8} {ts : List Lx.Tok} (hg : good a = true) (hs : Lx.scan s = .ok ts) (hl : a.length + s.length ≤ 60000) :
    ∃ p1 p2 us, Lx.scan (37 :: (a ++ 59 :: s)) = .ok (⟨3, [37], (1, 1)⟩ :: ⟨1, a, p1⟩ :: ⟨3, [59], p2⟩ :: us) ∧ us.map Lx.kt = ts.map Lx.kt := by
  unfold Lx.scan at hs
  rw [if_neg (by omega)] at hs
  obtain ⟨us, h1, h2⟩ := Lx.scanF_pos _ _ _ _ _ hs
  rw [List.nil_append] at h1
  subst h1
  have hpos : 1 ≤ a.length := by
    obtain ⟨c, cs, rfl, _⟩ := good_name hg
    simp
  unfold Lx.scan
  rw [if_neg (by simp only [List.length_cons, List.length_append]; omega)]
  obtain ⟨k, hk⟩ : ∃ k, (37 :: (a ++ 59 :: s)).length + 1 = k + 1 + 1 + 1 ∧ s.length + 1 ≤ k := ⟨a.length + s.length, by simp only [List.length_cons, List.length_append]; omega, by omega⟩
  rw [hk.1, scanF_sign sign37]
  obtain ⟨p', hn⟩ := scanF_name hg (k + 1) s (Lx.adv 37 (1, 1)) ([] ++ [⟨3, [37], (1, 1)⟩])
  rw [hn, scanF_sign sign59]
  obtain ⟨us', h3, h4⟩ := h2 (Lx.adv 59 p') ([] ++ [⟨3, [37], (1, 1)⟩] ++ [⟨1, a, Lx.adv 37 (1, 1)⟩] ++ [⟨3, [59], p'⟩])
  refine ⟨Lx.adv 37 (1, 1), p', us', ?_, h4⟩
  rw [Lx.scanF_more _ _ _ _ _ _ hk.2 h3]
  simp
theorem alike_of {pre us ts : List Lx.Tok} (h : us.map Lx.kt = ts.map Lx.kt) (hi : Nat) : Sw.Alike (ts.map toS) ((pre ++ us).map toS) pre.length 0 hi := by
  intro k _ _
  have hk : (us[k]?).map Lx.kt = (ts[k]?).map Lx.kt := by rw [← List.getElem?_map, ← List.getElem?_map, h]
  rw [List.getElem?_map, List.getElem?_map, List.getElem?_append_right (by omega), Nat.add_sub_cancel, Option.map_map, Option.map_map]
  have e : ∀ t : Lx.Tok, (key ∘ toS) t = (fun q : Int × List UInt8 => (q.1, (⟨q.2.toArray⟩ : ByteArray))) (Lx.kt t) := fun t => rfl
  have e2 : (key ∘ toS) = (fun q : Int × List UInt8 => (q.1, (⟨q.2.toArray⟩ : ByteArray))) ∘ Lx.kt := funext e
  rw [e2, ← Option.map_map, ← Option.map_map, hk]
abbrev pre3 (l : List UInt8) (p1 p2 : Int × Int) : List Lx.Tok := [⟨3, [37], (1, 1)⟩, ⟨1, l, p1⟩, ⟨3, [59], p2⟩]
theorem start_parse {a s : ByteArray} {g : S25} {j : Nat} {ts : List Lx.Tok} (hg : good a.data.toList = true) (hs : Lx.scan s.data.toList = .ok ts) (hp : parseR s = some (.ok g j)) (hlen : a.size ≤ 100) (hlen2 : s.size ≤ 500)
    (h0 : ∀ t, (ts.map toS)[0]? = some t → t.f1.toList ≠ [37]) :
    ∃ g' j', parseR (((⟨#[37]⟩ : ByteArray) ++ a ++ ⟨#[59]⟩) ++ s) = some (.ok g' j') ∧ g'.f0 = a ∧ g'.f1 = g.f1 := by
  have hd : ((((⟨#[37]⟩ : ByteArray) ++ a ++ ⟨#[59]⟩) ++ s)).data.toList = 37 :: (a.data.toList ++ 59 :: s.data.toList) := by simp [ByteArray.data_append]
  have ha : a.data.toList.length = a.size := length_data a
  have hsz : s.data.toList.length = s.size := length_data s
  obtain ⟨p1, p2, us, h1, h2⟩ := started hg hs (by omega)
  unfold parseR at hp ⊢
  rw [hs] at hp
  rw [hd, h1]
  simp only at hp ⊢
  have hcount := Lx.scan_count hs
  have hlu : us.length = ts.length := by have := congrArg List.length h2; simpa using this
  rcases andThen_some hp with ⟨_, _, _, _, hh⟩ | ⟨st, i, hst, hk⟩
  · cases hh
  · -- the text has no start of its own
    have hst0 : st = ⟨#[]⟩ ∧ i = 0 := by
      obtain ⟨t, ht, ⟨_, hh⟩ | ⟨_, hh⟩⟩ := peekP_some hst
      · cases hh
      · rw [if_neg] at hh
        · cases hh; exact ⟨rfl, rfl⟩
        · rw [signB_lit]
          have := h0 t ht
          simp only [Bool.and_eq_true, beq_iff_eq, not_and]
          exact fun _ => this
    obtain ⟨rfl, rfl⟩ := hst0
    obtain ⟨q, hq, hr⟩ := map_some hk
    cases q with
    | bad l c e => cases hr
    | ok l j0 =>
      cases hr
      have hal := alike_of (pre := pre3 a.data.toList p1 p2) h2 j
      have hok := rulesL_ok hq
      obtain ⟨te, hte, _⟩ := hok.2.2.2
      have hjl := (List.getElem?_eq_some_iff.1 hte).1
      rw [List.length_map] at hjl
      have h64 : l.length ≤ 64 := rulesL_count hq (by simp)
      have hq' := rulesL_loc (us := (pre3 a.data.toList p1 p2 ++ us).map toS) (d := 3) (first' := true) [] hq hal (by omega) (by simpa using h64) (fun h => h)
      have hq2 := rulesL_le (p := ts.length + 2) (q := us.length + 5) (by omega) (m := us.length + 5) (by omega) hq'
      have hstart : startP ((pre3 a.data.toList p1 p2 ++ us).map toS) = some (.ok a 3) := by
        have ea : (⟨a.data.toList.toArray⟩ : ByteArray) = a := by cases a; simp
        simp only [List.map_append, List.map_cons, List.cons_append]
        unfold startP peekP
        simp only [List.getElem?_cons_zero, farB_small (show 0 < 4096 by omega)]
        rw [if_neg (by simp), if_pos (by rw [signB_lit]; simp [toS])]
        unfold nameP peekP
        simp only [List.getElem?_cons_succ, List.getElem?_cons_zero, farB_small (show 1 < 4096 by omega)]
        rw [if_neg (by simp), if_pos (by rfl)]
        simp only [andThen]
        unfold takeP peekP
        simp only [List.getElem?_cons_succ, List.getElem?_cons_zero, farB_small (show 2 < 4096 by omega)]
        rw [if_neg (by simp), if_pos (by rw [signB_lit]; simp [toS])]
        simp only [toS, ea]
      refine ⟨⟨startOf a l, l⟩, j + 3, ?_, ?_, rfl⟩
      · show grammarP ((pre3 a.data.toList p1 p2 ++ us).map toS) (us.length + 5) = _
        unfold grammarP
        rw [hstart]
        simp only [andThen]
        rw [show 3 = 0 + 3 from rfl, show ([] : List S51) = [] ++ [] from rfl, hq2]
        rfl
      · show startOf a l = a
        unfold startOf
        rw [if_neg]
        rw [ByteArray.toList_eq]
        obtain ⟨c, cs, hc, _⟩ := good_name hg
        rw [hc]
        simp

theorem parse_f {s : ByteArray} {r : PR S25} (h : parseR s = some r) : syntax_Parse.f s = some (parseT r) := by unfold syntax_Parse.f; rw [h]; rfl
theorem scan_f (s : ByteArray) : ∃ l a b c, lex_Scan.f s = some (l, a, b, c) ∧ ∀ ts, Lx.scan s.data.toList = .ok ts → l = ts.map toS := by
  unfold lex_Scan.f
  cases h : Lx.scan s.data.toList with
  | error f => exact ⟨_, _, _, _, rfl, fun ts h => by cases h⟩
  | ok ts => exact ⟨_, _, _, _, rfl, fun us h => by cases h; rfl⟩
theorem parse_code {s : ByteArray} {l k x : Int} (h : parseR s = some (.bad l k x)) : x ≠ 0 := by
  unfold parseR at h
  cases hs : Lx.scan s.data.toList with
  | error f => rw [hs] at h; cases h; exact scan_code hs
  | ok ts => rw [hs] at h; exact grammarP_code h
theorem parse_scan {s : ByteArray} {g : S25} {j : Nat} (h : parseR s = some (.ok g j)) : ∃ ts, Lx.scan s.data.toList = .ok ts := by
  unfold parseR at h
  cases hs : Lx.scan s.data.toList with
  | error f => rw [hs] at h; cases h
  | ok ts => exact ⟨ts, rfl⟩
theorem SyntaxStart : primerlaw05_SyntaxStart.Pure := by
  intro a s ha hs
  refine Ev.at ?_
  unfold primerlaw05_SyntaxStart.f primerlaw05_speaks.f
  simp only [Option.bind_some, if_true]
  have hgood : Ev (fun k => primerlaw05_good.f k a) true := by
    unfold primerlaw05_good.f
    refine (refGood_ref ha).bind ((lexGood_ref ha).bind ?_)
    exact Ev.const.eq' (by simp)
  refine hgood.bind (Ev.succ ?_)
  simp only [primerlaw05_SyntaxStart.j0, Bool.not_true, Bool.false_eq_true, if_false]
  have hbig : Ev (fun k => primerlaw05_SyntaxStart.j1 k a s true) true := Ev.succ (by simp only [primerlaw05_SyntaxStart.j1, if_true]; exact Ev.const)
  by_cases hs5 : (s.size : Int) > 500
  · exact Ev.pos hs5 hbig
  · refine Ev.neg hs5 ?_
    by_cases ha1 : (a.size : Int) > 100
    · rw [decide_eq_true ha1]; exact hbig
    · rw [decide_eq_false ha1]
      refine Ev.succ ?_
      simp only [primerlaw05_SyntaxStart.j1, Bool.false_eq_true, if_false]
      have hskip : ∀ g l, Ev (fun k => primerlaw05_SyntaxStart.j2 k a s true g l) true := fun g l => Ev.succ (by simp only [primerlaw05_SyntaxStart.j2, if_true]; exact Ev.const)
      obtain ⟨r, hr⟩ := parse_some s
      obtain ⟨l, x, y, z, hl, hts⟩ := scan_f s
      rw [parse_f hr, hl]
      simp only [Option.bind_some]
      cases r with
      | bad l' k' x' => exact Ev.neg (parse_code hr) (hskip _ _)
      | ok g j =>
        refine Ev.pos rfl ?_
        obtain ⟨ts, hsc⟩ := parse_scan hr
        have hl2 := hts ts hsc
        subst hl2
        obtain ⟨init, e, hinit, _⟩ := Lx.scan_valid hsc
        have hpos : 0 < (ts.map toS).length := (toks_of_scan hsc).pos
        refine Ev.pos (by omega) ?_
        obtain ⟨t0, ht0⟩ := tok_at hpos
        have hrd : rd_T46 (ts.map toS) 0 = t0 := by
          have := rd_tok ht0
          simpa using this
        rw [hrd]
        by_cases h37 : t0.f1.toList = [37]
        · exact Ev.pos h37 (hskip _ _)
        · refine Ev.neg h37 ((lexGood_ref ha).bind ?_)
          cases hg : good a.data.toList
          · exact hskip _ _
          · refine Ev.succ ?_
            simp only [primerlaw05_SyntaxStart.j2, Bool.not_true, Bool.false_eq_true, if_false]
            have e1 : ((⟨#[37]⟩ : ByteArray) ++ a).size = 1 + a.size := by rw [ByteArray.size_append]; rfl
            have e2 : (((⟨#[37]⟩ : ByteArray) ++ a) ++ (⟨#[59]⟩ : ByteArray)).size = 1 + a.size + 1 := by rw [ByteArray.size_append, e1]; rfl
            refine Ev.pos (by omega) (Ev.pos (by rw [e1]; omega) (Ev.pos (by rw [e2]; omega) ?_))
            obtain ⟨g', j', hp', hf0, hf1⟩ := start_parse hg hsc hr (by omega) (by omega) (fun t ht => by rw [ht0] at ht; cases ht; exact h37)
            rw [parse_f hp']
            simp only [Option.bind_some, parseT]
            refine Ev.pos trivial ?_
            unfold syntax_Same.f
            rw [hf0, hf1, sameR_refl, beq_self_eq_true]
            exact Ev.const
end Go.Proofs.Ytgllncnfhiiobaa.Pure
