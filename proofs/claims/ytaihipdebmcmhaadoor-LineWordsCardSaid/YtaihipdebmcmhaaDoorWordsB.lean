/- The plain law: what the two splitters compute is one and the same. -/
import Derived.Test.YtaihipdebmcmhaaDoorWordsF
import Derived.Lib.LazyBuf
import Derived.Lib.SplitLaws
import Derived.Lib.ReplaceLaws
import Derived.Lib.IndexBytes
namespace Go.Proofs.YtaihipdebmcmhaaDoor.Splits
open Go.RowKit Go.Proofs.YtaihipdebmcmhaaDoorW.PrintWords Go.Proofs.YtaihipdebmcmhaaDoorW.PrintLast
set_option linter.unusedVariables false
set_option linter.unusedSectionVars false
set_option linter.unusedSimpArgs false
def blank (c : UInt8) : Bool := ([32, 9] : List UInt8).contains c
def ba (l : List UInt8) : ByteArray := ⟨l.toArray⟩
def nums (l : List UInt8) : List Int := l.map fun b => (b.toNat : Int)
theorem ba_size (l : List UInt8) : (ba l).size = l.length := by simp [ba, ByteArray.size]
theorem ba_list (l : List UInt8) : (ba l).data.toList = l := by simp [ba]
theorem ba_of (b : ByteArray) : ba b.data.toList = b := by cases b; simp [ba]
theorem nums_app (l : List UInt8) (c : UInt8) : nums l ++ [(c.toNat : Int)] = nums (l ++ [c]) := by simp [nums]
theorem nums_len (l : List UInt8) : (nums l).length = l.length := by simp [nums]
theorem str_nums (l : List UInt8) : strOfNums (nums l) = ba l := Go.Lib.Lz.strOfNums_map l
theorem wrap_ok {n : Int} (h0 : 0 ≤ n) (h1 : n < 9223372036854775807) : wrap64 (n + 1) = n + 1 := by unfold wrap64; omega
theorem bt_list (b : ByteArray) (i : Nat) (c : UInt8) (h : b.data.toList[i]? = some c) : bt b (i : Int) = (c.toNat : Int) := by
  obtain ⟨h1, h2⟩ := List.getElem?_eq_some_iff.1 h
  have hl : i < b.size := by rw [Array.length_toList] at h1; exact h1
  unfold bt
  rw [dif_pos (by simpa using hl)]
  have : b[(i : Int).toNat]'(by simpa using hl) = c := by
    rw [← h2]; simp [ByteArray.getElem_eq_getElem_data]
  rw [this]
theorem blank_eq (c : UInt8) : blank c = (decide (c = 32) || decide (c = 9)) := by
  unfold blank
  simp [List.contains_cons]
theorem toNat_eq {c : UInt8} {n : Nat} (hn : n < 256) : ((c.toNat : Int) = (n : Int)) ↔ c = UInt8.ofNat n := by
  constructor
  · intro h
    have h : c.toNat = n := by omega
    rw [← h]; simp
  · rintro rfl
    simp
    omega

/-- what stands between two marks -/
def unq (m : UInt8) (acc : List UInt8) (l : List UInt8) : Option (List UInt8 × List UInt8) :=
  match l with
  | [] => none
  | c :: l =>
    if c = m then some (acc, l) else
    if c = 92 then
      match l with
      | [] => none
      | d :: l' => if d = 34 ∨ d = 39 ∨ d = 92 then unq m (acc ++ [d]) l' else if d = 110 then unq m (acc ++ [10]) l' else none
    else unq m (acc ++ [c]) l
termination_by l.length
theorem unq_suffix (m : UInt8) : ∀ (n : Nat) (l acc w r : List UInt8), l.length ≤ n → unq m acc l = some (w, r) → r <:+ l ∧ r.length < l.length := by
  intro n
  induction n with
  | zero =>
    intro l acc w r hn h
    have : l = [] := by cases l <;> simp_all
    subst this
    rw [unq.eq_def] at h; exact nomatch h
  | succ n ih =>
    intro l acc w r hn h
    cases l with
    | nil => rw [unq.eq_def] at h; exact nomatch h
    | cons c l =>
      rw [unq.eq_def] at h
      simp only at h
      split at h
      · injection h with h; injection h with h1 h2; subst h2
        exact ⟨List.suffix_cons c l, by simp⟩
      · split at h
        · cases l with
          | nil => exact nomatch h
          | cons d l' =>
            simp only at h
            have hl : l'.length ≤ n := by simp at hn; omega
            split at h
            · obtain ⟨h1, h2⟩ := ih l' _ w r hl h
              exact ⟨h1.trans ((List.suffix_cons d l').trans (List.suffix_cons c _)), by simp; omega⟩
            · split at h
              · obtain ⟨h1, h2⟩ := ih l' _ w r hl h
                exact ⟨h1.trans ((List.suffix_cons d l').trans (List.suffix_cons c _)), by simp; omega⟩
              · exact nomatch h
        · obtain ⟨h1, h2⟩ := ih l _ w r (by simp at hn; omega) h
          exact ⟨h1.trans (List.suffix_cons c l), by simp; omega⟩

/-- the words -/
def spl : Nat → List UInt8 → List ByteArray → List ByteArray × Int
  | 0, _, acc => (acc, 0)
  | n + 1, l, acc =>
    match l.dropWhile blank with
    | [] => (acc, 0)
    | c :: t =>
      if c = 34 ∨ c = 39 then
        match unq c [] t with
        | none => ([], 50)
        | some (w, []) => spl n [] (acc ++ [ba w])
        | some (w, d :: r) => if blank d = true then spl n (d :: r) (acc ++ [ba w]) else ([], 50)
      else spl n ((c :: t).dropWhile (fun x => !blank x)) (acc ++ [ba ((c :: t).takeWhile (fun x => !blank x))])

/-! ### positions by what is left -/
def pos (L t : List UInt8) : Int := (L.length : Int) - (t.length : Int)
section
variable {a0 : ByteArray} {L : List UInt8} (hL : a0.data.toList = L) (hn : L.length ≤ 5000)
include hL
theorem sz : (a0.size : Int) = (L.length : Int) := by rw [← hL, Array.length_toList]; rfl
theorem at_get {t : List UInt8} (hs : t <:+ L) (i : Nat) : L[L.length - t.length + i]? = t[i]? := by
  obtain ⟨p, hp⟩ := hs
  subst hp
  rw [List.length_append, Nat.add_sub_cancel, List.getElem?_append_right (by omega), Nat.add_sub_cancel_left]
theorem pos_nat {t : List UInt8} (hs : t <:+ L) : pos L t = ((L.length - t.length : Nat) : Int) := by
  have := hs.length_le
  unfold pos; omega
theorem bt_pos {c : UInt8} {t : List UInt8} (hs : (c :: t) <:+ L) : bt a0 (pos L (c :: t)) = (c.toNat : Int) := by
  rw [pos_nat hL hs]
  refine bt_list a0 _ c ?_
  rw [hL]
  have := at_get hL hs 0
  simpa using this
include hn
theorem pos_next {c : UInt8} {t : List UInt8} (hs : (c :: t) <:+ L) : wrap64 (pos L (c :: t) + 1) = pos L t := by
  have h1 := hs.length_le
  rw [wrap_ok (by unfold pos; omega) (by unfold pos; omega)]
  unfold pos
  simp
  omega
omit hn in
theorem pos_ge {t : List UInt8} (hs : t <:+ L) : 0 ≤ pos L t := by
  have h1 := hs.length_le
  unfold pos; omega
omit hn in
theorem pos_lt {c : UInt8} {t : List UInt8} (hs : (c :: t) <:+ L) : pos L (c :: t) < (a0.size : Int) := by
  rw [sz hL]
  unfold pos; simp; omega
omit hn in
theorem pos_nil : pos L [] = (a0.size : Int) := by
  rw [sz hL]; unfold pos; simp
omit hn in
theorem cut_pos {w t : List UInt8} (hs : (w ++ t) <:+ L) : a0.extract (pos L (w ++ t)).toNat (pos L t).toNat = ba w := by
  have hs2 : t <:+ L := (List.suffix_append w t).trans hs
  rw [pos_nat hL hs, pos_nat hL hs2]
  obtain ⟨p, hp⟩ := hs
  have : a0 = ba (p ++ (w ++ t)) := by rw [hp, ← hL, ba_of]
  rw [this, ← hp]
  unfold ba
  apply ByteArray.ext
  apply Array.ext'
  simp [ByteArray.data_extract]
  rw [show p.length + (w.length + t.length) - t.length - p.length = w.length by omega]
  simp

omit hL hn in
theorem u34 (c : UInt8) : ((c.toNat : Int) = 34) = (c = 34) := propext (toNat_eq (n := 34) (by decide))
omit hL hn in
theorem u39 (c : UInt8) : ((c.toNat : Int) = 39) = (c = 39) := propext (toNat_eq (n := 39) (by decide))
omit hL hn in
theorem u92 (c : UInt8) : ((c.toNat : Int) = 92) = (c = 92) := propext (toNat_eq (n := 92) (by decide))
omit hL hn in
theorem u110 (c : UInt8) : ((c.toNat : Int) = 110) = (c = 110) := propext (toNat_eq (n := 110) (by decide))
omit hL hn in
theorem u32 (c : UInt8) : ((c.toNat : Int) = 32) = (c = 32) := propext (toNat_eq (n := 32) (by decide))
omit hL hn in
theorem u9 (c : UInt8) : ((c.toNat : Int) = 9) = (c = 9) := propext (toNat_eq (n := 9) (by decide))
omit hL hn in
theorem u10 (c : UInt8) : ((c.toNat : Int) = 10) = (c = 10) := propext (toNat_eq (n := 10) (by decide))
omit hL hn in
theorem uu (c d : UInt8) : ((c.toNat : Int) = (d.toNat : Int)) = (c = d) := propext ⟨fun h => UInt8.toNat_inj.1 (by omega), fun h => by rw [h]⟩
omit hn in
theorem pos_le {w t : List UInt8} (hs : (w ++ t) <:+ L) : pos L (w ++ t) ≤ pos L t ∧ pos L t ≤ (a0.size : Int) := by
  have h1 := hs.length_le
  rw [sz hL]; unfold pos; simp at *; omega
theorem dropWhile_suffix {p : UInt8 → Bool} : ∀ t : List UInt8, t.dropWhile p <:+ t := fun t => List.dropWhile_suffix p
omit hn in
theorem tail_pos {t : List UInt8} (hs : t <:+ L) : a0.extract (pos L t).toNat a0.size = ba t := by
  have h := cut_pos hL (w := t) (t := []) (by simpa using hs)
  rw [List.append_nil, pos_nil hL] at h
  simpa using h
theorem lq_l0 (m : UInt8) : ∀ (n : Nat) t acc, t.length ≤ n → t <:+ L → acc.length + t.length ≤ 5000 →
    ∃ k, line_quoted.l0 k a0 (m.toNat : Int) (nums acc) (pos L t) = some (match unq m acc t with | none => ((⟨#[]⟩ : ByteArray), (⟨#[]⟩ : ByteArray), false) | some (w, r) => (ba w, ba r, true)) := by
  intro n
  induction n with
  | zero =>
    intro t acc h1 hs h2
    have : t = [] := by cases t <;> simp_all
    subst this
    refine ⟨1, ?_⟩
    rw [unq.eq_def]
    simp only [line_quoted.l0]
    rw [if_neg (by rw [pos_nil hL]; omega)]
  | succ n ih =>
    intro t acc h1 hs h2
    cases t with
    | nil =>
      refine ⟨1, ?_⟩
      rw [unq.eq_def]
      simp only [line_quoted.l0]
      rw [if_neg (by rw [pos_nil hL]; omega)]
    | cons c t =>
      have hs2 : t <:+ L := (List.suffix_cons c t).trans hs
      have hacc : (nums acc).length < 140737488355328 := by rw [nums_len]; simp at h2; omega
      have g1 := pos_lt hL hs
      have g2 := pos_ge hL hs
      have g3 := bt_pos hL hs
      have g4 := pos_next hL hn hs
      have g6 := pos_ge hL hs2
      have g7 : pos L t ≤ (a0.size : Int) := (pos_le hL (w := []) (by simpa using hs2)).2
      rw [unq.eq_def]
      simp only
      by_cases hc : c = m
      · rw [if_pos hc]
        refine ⟨1, ?_⟩
        simp only [line_quoted.l0]
        rw [if_pos g1, if_pos g2, g3, hc, if_pos rfl, ← hc, g4, if_pos g6, if_pos g7, str_nums, tail_pos hL hs2]
      · rw [if_neg hc]
        have hne : ¬ ((c.toNat : Int)) = (m.toNat : Int) := by rw [uu]; exact hc
        by_cases h92 : c = 92
        · rw [if_pos h92]
          have g5 : ((c.toNat : Int) = 92) := by rw [u92]; exact h92
          cases t with
          | nil =>
            refine ⟨1, ?_⟩
            simp only [line_quoted.l0]
            rw [if_pos g1, if_pos g2, g3, if_neg hne, if_pos g5, g4, if_pos (pos_nil hL)]
          | cons d r =>
            have hs3 : r <:+ L := (List.suffix_cons d r).trans hs2
            have q1 := pos_lt hL hs2
            have q2 := pos_ge hL hs2
            have q3 := bt_pos hL hs2
            have q4 := pos_next hL hn hs2
            have qn : ¬ pos L (d :: r) = (a0.size : Int) := by omega
            simp only
            have hlen : r.length ≤ n := by simp at h1; omega
            have hl2 : acc.length + 1 + r.length ≤ 5000 := by simp at h2; omega
            by_cases hd : d = 34 ∨ d = 39 ∨ d = 92
            · rw [if_pos hd]
              obtain ⟨k, h⟩ := ih r (acc ++ [d]) hlen hs3 (by simpa using hl2)
              refine ⟨k + 2, ?_⟩
              have fin : line_quoted.j1 (k + 1) a0 (m.toNat : Int) (nums acc) (pos L (d :: r)) (d.toNat : Int) true = line_quoted.l0 k a0 (m.toNat : Int) (nums (acc ++ [d])) (pos L r) := by
                rw [line_quoted.j1, if_pos rfl, if_pos q2, if_pos q1, q3, if_pos hacc, q4, nums_app]
              rw [line_quoted.l0, if_pos g1, if_pos g2, g3, if_neg hne, if_pos g5, g4, if_neg qn, if_pos q2, if_pos q1, q3]
              rw [← h, ← fin]
              rcases hd with rfl | rfl | rfl
              · rw [if_pos (by decide)]; rfl
              · rw [if_neg (by decide), if_pos (by decide)]; rfl
              · rw [if_neg (by decide), if_neg (by decide)]; rfl
            · rw [if_neg hd]
              have n34 : ¬ ((d.toNat : Int) = 34) := by rw [u34]; exact fun e => hd (.inl e)
              have n39 : ¬ ((d.toNat : Int) = 39) := by rw [u39]; exact fun e => hd (.inr (.inl e))
              have n92 : (((d.toNat : Int)) == 92) = false := by rw [beq_eq_false_iff_ne]; intro h; rw [u92] at h; exact hd (.inr (.inr h))
              by_cases h110 : d = 110
              · rw [if_pos h110]
                have e110 : ((d.toNat : Int) = 110) := by rw [u110]; exact h110
                obtain ⟨k, h⟩ := ih r (acc ++ [10]) hlen hs3 (by simpa using hl2)
                refine ⟨k + 2, ?_⟩
                rw [line_quoted.l0, if_pos g1, if_pos g2, g3, if_neg hne, if_pos g5, g4, if_neg qn, if_pos q2, if_pos q1, q3, if_neg n34, if_neg n39, n92, line_quoted.j1, if_neg (by decide), if_pos e110, if_pos hacc, q4]
                rw [← nums_app] at h
                exact h
              · rw [if_neg h110]
                have e110 : ¬ ((d.toNat : Int) = 110) := by rw [u110]; exact h110
                refine ⟨2, ?_⟩
                rw [line_quoted.l0, if_pos g1, if_pos g2, g3, if_neg hne, if_pos g5, g4, if_neg qn, if_pos q2, if_pos q1, q3, if_neg n34, if_neg n39, n92, line_quoted.j1, if_neg (by decide), if_neg e110]
        · rw [if_neg h92]
          have g5 : ¬ ((c.toNat : Int) = 92) := by rw [u92]; exact h92
          obtain ⟨k, h⟩ := ih t (acc ++ [c]) (by simp at h1; omega) hs2 (by simp at h2 ⊢; omega)
          refine ⟨k + 1, ?_⟩
          rw [line_quoted.l0, if_pos g1, if_pos g2, g3, if_neg hne, if_neg g5, if_pos hacc, g4, nums_app]
          exact h
end
theorem lq_f (m : UInt8) (u : List UInt8) (hl : u.length < 5000) :
    ∃ k, line_quoted.f k (ba (m :: u)) = some (match unq m [] u with | none => ((⟨#[]⟩ : ByteArray), (⟨#[]⟩ : ByteArray), false) | some (w, r) => (ba w, ba r, true)) := by
  have hL := ba_list (m :: u)
  have hn : (m :: u).length ≤ 5000 := by simp; omega
  obtain ⟨k, h⟩ := lq_l0 hL hn m _ u [] (Nat.le_refl _) (List.suffix_cons m u) (by simp; omega)
  refine ⟨k, ?_⟩
  have h0 := bt_pos hL (List.suffix_refl (m :: u))
  have p0 : pos (m :: u) (m :: u) = 0 := by unfold pos; omega
  have p1 : pos (m :: u) u = 1 := by unfold pos; simp; omega
  rw [p0] at h0
  rw [p1] at h
  unfold line_quoted.f
  rw [if_pos (by rw [ba_size]; simp), h0]
  exact h
theorem leO_le {α : Type} {f : Nat → Option α} (h : ∀ k, LeO (f k) (f (k + 1))) {k : Nat} : ∀ {n : Nat}, k ≤ n → LeO (f k) (f n) := by
  intro n hkn
  induction n with
  | zero => obtain rfl : k = 0 := by omega
            exact LeO.refl _
  | succ n ih =>
    by_cases e : k = n + 1
    · subst e; exact LeO.refl _
    · exact (ih (by omega)).trans (h n)
theorem idx_words : ∀ l : List UInt8, Lib.indexAny l [32, 9] = if l.dropWhile (fun x => !blank x) = [] then -1 else ((l.takeWhile fun x => !blank x).length : Int) := by
  intro l
  induction l with
  | nil => rfl
  | cons c l ih =>
    rw [Lib.indexAny]
    by_cases hb : blank c = true
    · rw [if_pos (by exact hb), List.dropWhile_cons_of_neg (p := fun x => !blank x) (by simp [hb]), List.takeWhile_cons_of_neg (p := fun x => !blank x) (by simp [hb]), if_neg (by simp)]
      rfl
    · rw [if_neg (by exact hb), List.dropWhile_cons_of_pos (p := fun x => !blank x) (by simp [hb]), List.takeWhile_cons_of_pos (p := fun x => !blank x) (by simp [hb]), ih]
      by_cases hd : l.dropWhile (fun x => !blank x) = []
      · rw [if_pos hd, if_pos (by rfl), if_pos hd]
      · rw [if_neg hd, if_neg (by simp), if_neg hd, List.length_cons]
        omega
theorem cut_ba (w r : List UInt8) : (ba (w ++ r)).extract 0 w.length = ba w ∧ (ba (w ++ r)).extract w.length (ba (w ++ r)).size = ba r := by
  constructor
  · unfold ba; apply ByteArray.ext; apply Array.ext'; simp [ByteArray.data_extract]
  · rw [ba_size]; unfold ba; apply ByteArray.ext; apply Array.ext'; simp [ByteArray.data_extract]
theorem line_l0 : ∀ (n : Nat) t x4, t.length < n → x4.length + t.length ≤ 5000 → ∃ k, line_Split.l0 k (ba t) x4 = some (spl n t x4) := by
  intro n
  induction n with
  | zero => intro t x4 h; omega
  | succ n ih =>
    intro t x4 hl hx
    have htr : strings_TrimLeft.f (ba t) (⟨#[32, 9]⟩ : ByteArray) = some (ba (t.dropWhile blank)) := by
      unfold strings_TrimLeft.f
      rw [if_pos rfl, ba_list]; rfl
    have hle : (t.dropWhile blank).length ≤ t.length := (List.dropWhile_suffix _).length_le
    rw [spl]
    cases hu : t.dropWhile blank with
    | nil =>
      refine ⟨1, ?_⟩
      rw [line_Split.l0, htr, Option.bind_some, hu, if_pos (by rw [Lib.toList_data, ba_list])]
    | cons c u =>
      rw [hu] at hle htr
      simp only [List.length_cons] at hle
      have hcb : blank c = false := by
        have := List.head?_dropWhile_not blank t
        rw [hu] at this
        simpa using this
      have hx4 : x4.length < 8796093022208 := by omega
      have hlc := ba_list (c :: u)
      have g3 : bt (ba (c :: u)) 0 = (c.toNat : Int) := by
        have := bt_pos hlc (List.suffix_refl (c :: u))
        rwa [show pos (c :: u) (c :: u) = 0 by unfold pos; omega] at this
      have gne : ¬ (ba (c :: u)).toList = ([] : List UInt8) := by rw [Lib.toList_data, ba_list]; simp
      have gsz : 0 < ((ba (c :: u)).size : Int) := by rw [ba_size]; simp
      simp only
      by_cases hq : c = 34 ∨ c = 39
      · rw [if_pos hq]
        have e : ∀ k, line_Split.l0 (k + 1) (ba t) x4 = line_Split.j1 k (ba (c :: u)) x4 false := by
          intro k
          rw [line_Split.l0, htr, Option.bind_some, if_neg gne, if_pos gsz, g3]
          rcases hq with rfl | rfl
          · rw [if_pos (by decide)]
          · rw [if_neg (by decide)]; rfl
        obtain ⟨k1, h1⟩ := lq_f c u (by omega)
        have mono1 : ∀ K, k1 ≤ K → line_quoted.f K (ba (c :: u)) = _ := fun K hK => leO_le (f := fun k => line_quoted.f k (ba (c :: u))) (fun k => line_quoted.mono _ k) hK _ h1
        have mono2 : ∀ (b : ByteArray) (x : List ByteArray) (k2 K : Nat) r, k2 ≤ K → line_Split.l0 k2 b x = some r → line_Split.l0 K b x = some r := fun b x k2 K r hK h => leO_le (f := fun k => line_Split.l0 k b x) (fun k => (line_Split.mono_l k).1 b x) hK _ h
        cases hun : unq c [] u with
        | none =>
          rw [hun] at mono1
          refine ⟨k1 + 2, ?_⟩
          rw [e, line_Split.j1, if_neg (by decide), mono1 k1 (Nat.le_refl _), Option.bind_some, if_neg (by decide)]
        | some wr =>
          obtain ⟨w, r⟩ := wr
          rw [hun] at mono1
          obtain ⟨s1, s2⟩ := unq_suffix c _ u [] w r (Nat.le_refl _) hun
          cases r with
          | nil =>
            obtain ⟨k2, h2⟩ := ih [] (x4 ++ [ba w]) (by simp at s2 ⊢; omega) (by simp; omega)
            refine ⟨max k1 k2 + 2, ?_⟩
            rw [e, line_Split.j1, if_neg (by decide), mono1 _ (Nat.le_max_left _ _), Option.bind_some, if_pos rfl, if_pos (by rw [Lib.toList_data, ba_list]), if_pos hx4]
            exact mono2 _ _ k2 _ _ (Nat.le_max_right _ _) h2
          | cons d r =>
            have q3 : bt (ba (d :: r)) 0 = (d.toNat : Int) := by
              have := bt_pos (ba_list (d :: r)) (List.suffix_refl (d :: r))
              rwa [show pos (d :: r) (d :: r) = 0 by unfold pos; omega] at this
            have qne : ¬ (ba (d :: r)).toList = ([] : List UInt8) := by rw [Lib.toList_data, ba_list]; simp
            have qsz : 0 < ((ba (d :: r)).size : Int) := by rw [ba_size]; simp
            simp only
            by_cases hd : blank d = true
            · rw [if_pos hd]
              obtain ⟨k2, h2⟩ := ih (d :: r) (x4 ++ [ba w]) (by omega) (by simp at s2 ⊢; omega)
              refine ⟨max k1 k2 + 2, ?_⟩
              rw [e, line_Split.j1, if_neg (by decide), mono1 _ (Nat.le_max_left _ _), Option.bind_some, if_pos rfl, if_neg qne, if_pos qsz, q3]
              have h2' := mono2 _ _ k2 _ _ (Nat.le_max_right k1 k2) h2
              rw [blank_eq] at hd
              by_cases h32 : (d.toNat : Int) = 32
              · rw [if_pos h32, if_pos hx4]; exact h2'
              · have h9 : (d.toNat : Int) = 9 := by
                  rw [u32] at h32
                  rw [u9]
                  simpa [h32] using hd
                rw [if_neg h32, if_pos h9, if_pos hx4]; exact h2'
            · rw [if_neg hd]
              refine ⟨k1 + 2, ?_⟩
              rw [e, line_Split.j1, if_neg (by decide), mono1 k1 (Nat.le_refl _), Option.bind_some, if_pos rfl, if_neg qne, if_pos qsz, q3]
              rw [blank_eq] at hd
              have n32 : ¬ (d.toNat : Int) = 32 := by rw [u32]; intro h; exact hd (by simp [h])
              have n9 : ¬ (d.toNat : Int) = 9 := by rw [u9]; intro h; exact hd (by simp [h])
              rw [if_neg n32, if_neg n9]
      · rw [if_neg hq]
        have hnb : (!blank c) = true := by rw [hcb]; rfl
        obtain ⟨W, hW⟩ : ∃ W, (c :: u).takeWhile (fun x => !blank x) = W := ⟨_, rfl⟩
        obtain ⟨R, hR⟩ : ∃ R, (c :: u).dropWhile (fun x => !blank x) = R := ⟨_, rfl⟩
        have hWR : c :: u = W ++ R := by rw [← hW, ← hR, List.takeWhile_append_dropWhile]
        have hRl : R.length ≤ u.length := by
          rw [← hR, List.dropWhile_cons_of_pos (p := fun x => !blank x) hnb]
          exact (List.dropWhile_suffix (l := u) (fun x => !blank x)).length_le
        rw [hW, hR]
        obtain ⟨k, h⟩ := ih R (x4 ++ [ba W]) (by omega) (by simp; omega)
        refine ⟨k + 2, ?_⟩
        have n34 : ¬ ((c.toNat : Int) = 34) := by rw [u34]; exact fun e => hq (.inl e)
        have n39 : (((c.toNat : Int)) != 39) = true := by rw [bne_iff_ne]; intro h; rw [u39] at h; exact hq (.inr h)
        have hia : strings_IndexAny.f (ba (c :: u)) (⟨#[32, 9]⟩ : ByteArray) = some (if R = [] then -1 else (W.length : Int)) := by
          unfold strings_IndexAny.f
          rw [if_pos ⟨rfl, by rw [ba_size]; simp; omega⟩, ba_list, idx_words, hW, hR]
        rw [line_Split.l0, htr, Option.bind_some, if_neg gne, if_pos gsz, g3, if_neg n34, n39, line_Split.j1, if_pos rfl, hia, Option.bind_some]
        have hcut := cut_ba W R
        rw [← hWR] at hcut
        by_cases hRe : R = []
        · rw [if_pos hRe, if_pos (by decide), if_pos (by omega), if_pos (Int.le_refl _), if_pos hx4]
          have hWl : (ba (c :: u)).size = W.length := by rw [ba_size, hWR, hRe]; simp
          have e1 : (((ba (c :: u)).size : Int)).toNat = W.length := by rw [hWl]; rfl
          rw [e1, hcut.1, hcut.2]
          exact h
        · rw [if_neg hRe, if_neg (by omega), if_pos (by omega), if_pos (by rw [ba_size, hWR, List.length_append]; omega), if_pos hx4]
          have e1 : ((W.length : Int)).toNat = W.length := rfl
          rw [e1, hcut.1, hcut.2]
          exact h
end Go.Proofs.YtaihipdebmcmhaaDoor.Splits
