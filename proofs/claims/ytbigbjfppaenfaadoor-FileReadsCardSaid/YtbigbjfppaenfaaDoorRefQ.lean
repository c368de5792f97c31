/- The reference's line, and its lines. -/
import Derived.Test.YtbigbjfppaenfaaDoorRefP
namespace Go.Proofs.YtbigbjfppaenfaaDoor.Lines
open Go.RowKit Go.Proofs.YtbigbjfppaenfaaDoorW.PrintWords Go.Proofs.YtbigbjfppaenfaaDoorW.PrintLast
set_option linter.unusedVariables false
set_option linter.unusedSectionVars false
set_option linter.unusedSimpArgs false
theorem indexByte_hit (c : UInt8) : ∀ (p q : List UInt8), c ∉ p → Lib.indexByte (p ++ c :: q) c = (p.length : Int) := by
  intro p q
  induction p with
  | nil => intro _; simp [Lib.indexByte]
  | cons d p ih =>
    intro h
    have hd : (d == c) = false := by
      rw [beq_eq_false_iff_ne]; rintro rfl; exact h List.mem_cons_self
    have := ih (fun e => h (List.mem_cons_of_mem _ e))
    rw [List.cons_append, Lib.indexByte, hd, this]
    have h2 : ((p.length : Int) == -1) = false := by rw [beq_eq_false_iff_ne]; omega
    rw [h2]
    simp
theorem indexByte_miss (c : UInt8) : ∀ (p : List UInt8), c ∉ p → Lib.indexByte p c = -1 := by
  intro p
  induction p with
  | nil => intro _; rfl
  | cons d p ih =>
    intro h
    have hd : (d == c) = false := by
      rw [beq_eq_false_iff_ne]; rintro rfl; exact h List.mem_cons_self
    rw [Lib.indexByte, hd, ih (fun e => h (List.mem_cons_of_mem _ e))]
    rfl
theorem cut_hit (p q : List UInt8) (h : (61 : UInt8) ∉ p) : Lib.cut (p ++ 61 :: q) [61] = (p, q, true) := by
  unfold Lib.cut
  rw [Lib.index_one, indexByte_hit 61 p q h, if_pos (by omega)]
  simp
theorem cut_miss (p : List UInt8) (h : (61 : UInt8) ∉ p) : Lib.cut p [61] = (p, [], false) := by
  unfold Lib.cut
  rw [Lib.index_one, indexByte_miss 61 p h]
  rfl
theorem split_at61 (u : List UInt8) : (∃ p q, u = p ++ 61 :: q ∧ (61 : UInt8) ∉ p) ∨ (61 : UInt8) ∉ u := by
  induction u with
  | nil => exact .inr (by simp)
  | cons c u ih =>
    by_cases hc : c = 61
    · exact .inl ⟨[], u, by rw [hc]; rfl, by simp⟩
    · rcases ih with ⟨p, q, h1, h2⟩ | h
      · exact .inl ⟨c :: p, q, by rw [h1]; rfl, by
          intro e
          rcases List.mem_cons.1 e with e | e
          · exact hc e.symm
          · exact h2 e⟩
      · refine .inr fun e => ?_
        rcases List.mem_cons.1 e with e | e
        · exact hc e.symm
        · exact h e
abbrev R5 := Int × ByteArray × ByteArray × Int × Bool
def KV (number : Int) (u : List UInt8) : R5 :=
  if (Lib.cut u [61]).2.2 = true then (2, ba (trm (Lib.cut u [61]).1), ba (trm (Lib.cut u [61]).2.1), number, keyedL (trm (Lib.cut u [61]).1)) else (0, ⟨#[]⟩, ⟨#[]⟩, 0, false)
theorem trm_le (t : List UInt8) : (trm t).length ≤ t.length := trimS_le t _
theorem line_l0 {u : List UInt8} (hn : u.length ≤ 5000) (number : Int) : ∀ (t p : List UInt8), u = p ++ t → (61 : UInt8) ∉ p → EvS (fun k => reveilleref5_line.l0 k number (ba u) (u.length : Int) (pos u t)) (KV number u) := by
  intro t
  induction t with
  | nil =>
    intro p hu hp
    refine EvS.pure fun n => ?_
    rw [reveilleref5_line.l0, if_neg (by unfold pos; simp)]
    unfold KV
    rw [cut_miss u (by rw [hu, List.append_nil]; exact hp)]
    rfl
  | cons c t ih =>
    intro p hu hp
    have hs : (c :: t) <:+ u := ⟨p, hu.symm⟩
    have hs2 : t <:+ u := (List.suffix_cons c t).trans hs
    have hple : p.length ≤ u.length := by rw [hu, List.length_append]; omega
    have htle : t.length ≤ u.length := hs2.length_le
    by_cases hc : c = 61
    · subst hc
      have hpos : pos u (61 :: t) = (p.length : Int) := by unfold pos; rw [hu, List.length_append]; omega
      have hcut := cut_hit p t hp
      rw [← hu] at hcut
      have hl := trm_le p
      have e1 : (ba u).extract 0 (pos u (61 :: t)).toNat = ba p := by
        rw [hpos, Int.toNat_natCast, ba_take, hu, List.take_left]
      have e2 := tail_pos hs2
      unfold KV
      rw [hcut]
      obtain ⟨K1, k1⟩ := trim_ev p (by omega)
      obtain ⟨K2, k2⟩ := trim_ev t (by omega)
      obtain ⟨K3, k3⟩ := key_ev (trm p) (by omega)
      refine ⟨K1 + K2 + K3 + 1, fun n0 h0 => ?_⟩
      obtain ⟨n, rfl⟩ : ∃ n, n0 = n + 1 := ⟨n0 - 1, by omega⟩
      have k1 := k1 n (by omega)
      have k2 := k2 n (by omega)
      have k3 := k3 n (by omega)
      dsimp only at k1 k2 k3 ⊢
      rw [reveilleref5_line.l0, ba_size, if_pos (pos_lt hs), if_pos (pos_ge hs), if_pos (pos_lt hs), bt_pos hs, if_pos (by decide), if_pos (Int.le_of_lt (pos_lt hs)), e1, k1, Option.bind_some, pos_next hn hs, if_pos (pos_ge hs2), if_pos (by have := pos_lt hs; unfold pos; omega), e2, k2, Option.bind_some, k3]
      rfl
    · refine EvS.step (ih (p ++ [c]) (by rw [hu]; simp) (by
        intro e
        rcases List.mem_append.1 e with e | e
        · exact hp e
        · exact hc (List.mem_singleton.1 e).symm)) fun n => ?_
      rw [reveilleref5_line.l0, ba_size, if_pos (pos_lt hs), if_pos (pos_ge hs), if_pos (pos_lt hs), bt_pos hs, if_neg (show ¬ ((c.toNat : Int) = 61) from fun h => hc ((toNat_eq (n := 61) (by decide)).1 h)), pos_next hn hs]
theorem trmL_idem (t : List UInt8) : trmL (trmL t) = trmL t := by
  induction t with
  | nil => rfl
  | cons c t ih =>
    rw [trmL_cons]
    by_cases h : blk c = true
    · rw [if_pos h, ih]
    · rw [if_neg h, trmL_cons, if_neg h]
theorem trmR_rev (t : List UInt8) : trmR t = (trmL t.reverse).reverse := rfl
theorem trmR_idem (t : List UInt8) : trmR (trmR t) = trmR t := by
  rw [trmR_rev t, trmR_rev, List.reverse_reverse, trmL_idem]
theorem trmL_len (t : List UInt8) : (trmL t).length ≤ t.length := (trmL_suffix t).length_le
theorem trmL_pre {p x : List UInt8} (h : trmL (p ++ x) = p ++ x) : trmL p = p := by
  cases p with
  | nil => rfl
  | cons c p =>
    rw [List.cons_append, trmL_cons] at h
    rw [trmL_cons]
    by_cases hc : blk c = true
    · rw [if_pos hc] at h
      have := congrArg List.length h
      have h2 := trmL_len (p ++ x)
      simp at this h2
      omega
    · rw [if_neg hc]
theorem trmR_suf {p q : List UInt8} (h : trmR (p ++ q) = p ++ q) : trmR q = q := by
  rcases List.eq_nil_or_concat q with rfl | ⟨q', d, rfl⟩
  · rfl
  · rw [List.concat_eq_append] at h ⊢
    rw [← List.append_assoc, trmR_snoc] at h
    rw [trmR_snoc]
    by_cases hd : blk d = true
    · rw [if_pos hd] at h
      have := congrArg List.length h
      have h2 := trmR_le (p ++ q')
      simp at this h2
      omega
    · rw [if_neg hd]
/-- what is told of a line -/
def says (number : Int) (t : Told) (r : R5) : Prop :=
  (t.err = 0 ∧ r = (t.1, t.2.1, t.2.2.1, number, true)) ∨ (t.err = 50 ∧ r.2.2.2.2 = false)
theorem says_KV (number : Int) (u : List UInt8) (hL : trmL u = u) (hR : trmR u = u) (h91 : ¬ [91].isPrefixOf u = true) : says number (readT u) (KV number u) := by
  unfold readT KV
  rw [if_neg h91]
  rcases split_at61 u with ⟨p, q, hu, hp⟩ | h
  · have hcut := cut_hit p q hp
    rw [← hu] at hcut
    rw [hcut]
    have e1 : trm p = trmR p := by rw [trm_eq, trmL_pre (x := 61 :: q) (by rw [← hu]; exact hL)]
    have e2 : trm q = trmL q := by
      have : trmR (p ++ [61] ++ q) = p ++ [61] ++ q := by
        have e : p ++ [61] ++ q = u := by rw [hu]; simp
        rw [e]; exact hR
      show trmL (trmR q) = _
      rw [trmR_suf this]
    dsimp only
    rw [e1, e2, if_pos rfl, if_pos rfl]
    by_cases hk : keyedL (trmR p) = true
    · rw [if_pos hk]
      exact .inl ⟨rfl, by rw [hk]⟩
    · rw [if_neg hk]
      exact .inr ⟨rfl, Bool.eq_false_iff.2 hk⟩
  · rw [cut_miss u h]
    exact .inr ⟨rfl, rfl⟩
theorem bad_KV (number : Int) (v : List UInt8) : (KV number (91 :: v)).2.2.2.2 = false := by
  unfold KV
  rcases split_at61 (91 :: v) with ⟨p, q, hu, hp⟩ | h
  · have hcut := cut_hit p q hp
    rw [← hu] at hcut
    rw [hcut]
    dsimp only
    rw [if_pos rfl]
    cases p with
    | nil => exact absurd (List.cons.inj hu).1 (by decide)
    | cons c p =>
      obtain rfl : c = 91 := (List.cons.inj hu).1.symm
      have : trm (91 :: p) = 91 :: trmR p := by
        rw [trm_eq, trmL_cons, if_neg (by decide), trmR_cons, if_neg (fun x => absurd x.2 (by decide))]
      rw [this]
      unfold keyedL
      rw [List.all_cons, show okK 91 = false from by decide]
      rfl
  · rw [cut_miss _ h]
    rfl
theorem last_byte (a : List UInt8) (c : UInt8) : bt (ba (a ++ [c])) (a.length : Int) = (c.toNat : Int) := by
  refine bt_list _ _ c ?_
  rw [ba_list]
  simp
theorem hasSuf_snoc (a : List UInt8) (c d : UInt8) : Lib.hasSuffix (a ++ [c]) [d] = (c == d) := by
  rw [Bool.eq_iff_iff, beq_iff_eq]
  unfold Lib.hasSuffix
  rw [List.isSuffixOf_iff_suffix]
  constructor
  · rintro ⟨x, hx⟩
    have := List.append_inj_right' hx rfl
    exact (List.singleton_inj.1 this).symm
  · rintro rfl
    exact ⟨a, rfl⟩
theorem wrap_pred {n : Nat} (h : n ≤ 5000) : wrap64 (((n + 1 : Nat) : Int) - 1) = (n : Int) := by unfold wrap64; omega
theorem beq_byte (c : UInt8) (n : Nat) (hn : n < 256) : ((c.toNat : Int) == (n : Int)) = (c == UInt8.ofNat n) := by
  rw [Bool.eq_iff_iff, beq_iff_eq, beq_iff_eq]
  exact toNat_eq hn
theorem line_ev (s : List UInt8) (hs : s.length ≤ 5000) (number : Int) : ∃ r : R5, EvS (fun k => reveilleref5_line.f k (ba s) number) r ∧ says number (readT (trm s)) r := by
  have hL : trmL (trm s) = trm s := trmL_idem (trmR s)
  have hR : trmR (trm s) = trm s := by rw [trm_eq]; exact trmR_idem _
  have hul : (trm s).length ≤ 5000 := Nat.le_trans (trm_le s) hs
  have ht := trim_ev s hs
  obtain ⟨u, hu⟩ : ∃ u, trm s = u := ⟨_, rfl⟩
  rw [hu] at hL hR hul ht ⊢
  -- the second half, where it is no section
  have kv : EvS (fun k => reveilleref5_line.j0 k number (ba u) (u.length : Int) false) (KV number u) := by
    have := line_l0 hul number u [] rfl (by simp)
    rw [pos_self] at this
    exact EvS.step this fun n => by rw [reveilleref5_line.j0, if_neg (by decide)]
  have go : ∀ (g : Nat → Option R5) (r : R5), EvS g r → (∀ k, (if ((ba u).size : Int) ≥ 2 then (if 0 < ((ba u).size : Int) then (if (bt (ba u) 0) = 91 then (if 0 ≤ (wrap64 (((ba u).size : Int) - 1)) then (if (wrap64 (((ba u).size : Int) - 1)) < ((ba u).size : Int) then (reveilleref5_line.j0 k number (ba u) ((ba u).size : Int) ((bt (ba u) (wrap64 (((ba u).size : Int) - 1))) == 93)) else (none)) else (none)) else (reveilleref5_line.j0 k number (ba u) ((ba u).size : Int) false)) else (none)) else (reveilleref5_line.j0 k number (ba u) ((ba u).size : Int) false)) = g k) → EvS (fun k => reveilleref5_line.f k (ba s) number) r := by
    intro g r hg he
    obtain ⟨K1, k1⟩ := ht
    obtain ⟨K2, k2⟩ := hg
    refine ⟨K1 + K2, fun n h0 => ?_⟩
    have k1 := k1 n (by omega)
    have k2 := k2 n (by omega)
    dsimp only at k1 k2 ⊢
    unfold reveilleref5_line.f
    rw [k1, Option.bind_some, he n, k2]
  by_cases h91 : [91].isPrefixOf u = true
  · obtain ⟨v, rfl⟩ := List.isPrefixOf_iff_prefix.1 h91
    rw [List.singleton_append] at *
    rcases List.eq_nil_or_concat v with rfl | ⟨w, d, rfl⟩
    · refine ⟨KV number [91], go _ _ kv fun k => ?_, .inr ⟨by decide, bad_KV number []⟩⟩
      rw [ba_size, if_neg (by decide)]
    · rw [List.concat_eq_append] at *
      have hsz : ((ba (91 :: (w ++ [d]))).size : Int) = ((w.length + 1 + 1 : Nat) : Int) := by rw [ba_size]; simp
      have hwl : w.length + 2 ≤ 5000 := by simpa using hul
      have hlast : bt (ba (91 :: (w ++ [d]))) ((w.length + 1 : Nat) : Int) = (d.toNat : Int) := last_byte (91 :: w) d
      have hbt0 : bt (ba (91 :: (w ++ [d]))) 0 = 91 := bt_list _ 0 91 (by rw [ba_list]; rfl)
      have hd93 : ((d.toNat : Int) == 93) = (d == 93) := beq_byte d 93 (by decide)
      have hdrop : (91 :: (w ++ [d])).drop 1 = w ++ [d] := rfl
      by_cases hd : d = 93
      · subst hd
        have e1 : (ba (91 :: (w ++ [93]))).extract 1 (w.length + 1) = ba w := by
          have := cut_pos (L := 91 :: (w ++ [93])) (w := w) (t := [93]) (List.suffix_cons _ _)
          have p1 : (pos (91 :: (w ++ [93])) (w ++ [93])).toNat = 1 := by unfold pos; simp <;> omega
          have p2 : (pos (91 :: (w ++ [93])) [93]).toNat = w.length + 1 := by unfold pos; simp <;> omega
          rw [p1, p2] at this
          exact this
        have hj : EvS (fun k => reveilleref5_line.j0 k number (ba (91 :: (w ++ [93]))) ((w.length + 1 + 1 : Nat) : Int) true) ((1, ba w, ⟨#[]⟩, number, namedL w) : R5) := by
          refine EvS.step (EvS.bind (f := fun k => reveilleref5_section.f k (ba w)) (g := fun k b => some ((1, ba w, (⟨#[]⟩ : ByteArray), number, b) : R5)) (section_ev w (by omega)) (EvS.some _)) fun n => ?_
          rw [reveilleref5_line.j0, if_pos rfl, wrap_pred (n := w.length + 1) (by omega), if_pos (by omega), hsz, if_pos (by omega), Int.toNat_natCast, e1]
        refine ⟨_, go _ _ hj fun k => ?_, ?_⟩
        · rw [hsz, if_pos (by omega), if_pos (by omega), hbt0, if_pos rfl, wrap_pred (n := w.length + 1) (by omega), if_pos (by omega), if_pos (by omega), hlast]
          rfl
        · unfold readT
          rw [if_pos h91, hdrop, hasSuf_snoc, if_pos (by decide)]
          have e : (w ++ [93]).take ((w ++ [93]).length - 1) = w := by simp
          rw [e]
          by_cases hnm : namedL w = true
          · rw [if_pos hnm]
            exact .inl ⟨rfl, by rw [hnm]⟩
          · rw [if_neg hnm]
            exact .inr ⟨rfl, Bool.eq_false_iff.2 hnm⟩
      · refine ⟨KV number (91 :: (w ++ [d])), go _ _ kv fun k => ?_, .inr ⟨?_, bad_KV number _⟩⟩
        · have hne : (d == 93) = false := beq_eq_false_iff_ne.2 hd
          rw [hsz, if_pos (by omega), if_pos (by omega), hbt0, if_pos rfl, wrap_pred (n := w.length + 1) (by omega), if_pos (by omega), if_pos (by omega), hlast, hd93, hne]
          rw [← hsz, ba_size]
        · unfold readT
          rw [if_pos h91, hdrop, hasSuf_snoc, if_neg (by simpa using hd)]
          rfl
  · refine ⟨KV number u, go _ _ kv fun k => ?_, says_KV number u hL hR h91⟩
    rw [ba_size]
    by_cases h2 : (u.length : Int) ≥ 2
    · rw [if_pos h2, if_pos (by omega)]
      cases u with
      | nil => exact absurd h2 (by decide)
      | cons c v =>
        have hbt : bt (ba (c :: v)) 0 = (c.toNat : Int) := bt_list _ 0 c (by rw [ba_list]; rfl)
        rw [hbt, if_neg (show ¬ ((c.toNat : Int) = 91) from fun h => h91 (by rw [(toNat_eq (n := 91) (by decide)).1 h]; rfl))]
    · rw [if_neg h2]
end Go.Proofs.YtbigbjfppaenfaaDoor.Lines
