/- What line.read tells of a text, in plain words; a text's rows. -/
import Derived.Test.YtaihipdebmcmhaaDoorLinesL
import Derived.Lib.ReplaceLaws
import Derived.Lib.IndexBytes
import Derived.Lib.SplitLaws
namespace Go.Proofs.YtaihipdebmcmhaaDoor.Lines
open Go.RowKit Go.Proofs.YtaihipdebmcmhaaDoorW.PrintWords Go.Proofs.YtaihipdebmcmhaaDoorW.PrintLast
set_option linter.unusedVariables false
set_option linter.unusedSectionVars false
set_option linter.unusedSimpArgs false
theorem ba_of (b : ByteArray) : ba b.data.toList = b := by cases b; simp [ba]
theorem ba_toList (l : List UInt8) : (ba l).toList = l := by rw [Lib.toList_data, ba_list]
theorem wrap_ok {n : Int} (h0 : 0 ≤ n) (h1 : n < 9223372036854775807) : wrap64 (n + 1) = n + 1 := by unfold wrap64; omega
theorem bt_list (b : ByteArray) (i : Nat) (c : UInt8) (h : b.data.toList[i]? = some c) : bt b (i : Int) = (c.toNat : Int) := by
  obtain ⟨h1, h2⟩ := List.getElem?_eq_some_iff.1 h
  have hl : i < b.size := by rw [Array.length_toList] at h1; exact h1
  unfold bt
  rw [dif_pos (by simpa using hl)]
  have : b[(i : Int).toNat]'(by simpa using hl) = c := by
    rw [← h2]; simp [ByteArray.getElem_eq_getElem_data]
  rw [this]
def pos (L t : List UInt8) : Int := (L.length : Int) - (t.length : Int)
section
variable {L : List UInt8} (hn : L.length ≤ 5000)
theorem at_get {t : List UInt8} (hs : t <:+ L) (i : Nat) : L[L.length - t.length + i]? = t[i]? := by
  obtain ⟨p, hp⟩ := hs
  subst hp
  rw [List.length_append, Nat.add_sub_cancel, List.getElem?_append_right (by omega), Nat.add_sub_cancel_left]
theorem pos_nat {t : List UInt8} (hs : t <:+ L) : pos L t = ((L.length - t.length : Nat) : Int) := by
  have := hs.length_le
  unfold pos; omega
theorem bt_pos {c : UInt8} {t : List UInt8} (hs : (c :: t) <:+ L) : bt (ba L) (pos L (c :: t)) = (c.toNat : Int) := by
  rw [pos_nat hs]
  refine bt_list _ _ c ?_
  rw [ba_list]
  have := at_get hs 0
  simpa using this
theorem pos_ge {t : List UInt8} (hs : t <:+ L) : 0 ≤ pos L t := by
  have h1 := hs.length_le
  unfold pos; omega
theorem pos_lt {c : UInt8} {t : List UInt8} (hs : (c :: t) <:+ L) : pos L (c :: t) < (L.length : Int) := by
  unfold pos; simp; omega
include hn in
theorem pos_next {c : UInt8} {t : List UInt8} (hs : (c :: t) <:+ L) : wrap64 (pos L (c :: t) + 1) = pos L t := by
  have h1 := hs.length_le
  rw [wrap_ok (by unfold pos; omega) (by unfold pos; omega)]
  unfold pos
  simp
  omega
def okN (c : UInt8) : Bool := decide (¬ (c.toNat : Int) < 32 ∧ (c.toNat : Int) ≠ 91 ∧ (c.toNat : Int) ≠ 93)
def okK (c : UInt8) : Bool := decide ((97 ≤ (c.toNat : Int) ∧ (c.toNat : Int) ≤ 122) ∨ (65 ≤ (c.toNat : Int) ∧ (c.toNat : Int) ≤ 90) ∨ (48 ≤ (c.toNat : Int) ∧ (c.toNat : Int) ≤ 57))
include hn in
theorem named_l0 : ∀ t : List UInt8, t <:+ L → ∃ k, line_named.l0 k (ba L) (L.length : Int) (pos L t) = some (t.all okN && (L != ([] : List UInt8))) := by
  intro t
  induction t with
  | nil =>
    intro hs
    refine ⟨1, ?_⟩
    rw [line_named.l0, if_neg (by unfold pos; simp), ba_toList]
    rfl
  | cons c t ih =>
    intro hs
    obtain ⟨k, hk⟩ := ih ((List.suffix_cons c t).trans hs)
    refine ⟨k + 1, ?_⟩
    rw [line_named.l0, ba_size, if_pos (pos_lt hs), if_pos (pos_ge hs), if_pos (pos_lt hs), bt_pos hs, pos_next hn hs, List.all_cons, hk]
    unfold okN
    by_cases h1 : (c.toNat : Int) < 32
    · rw [if_pos h1]; simp [h1]
    · rw [if_neg h1]
      by_cases h2 : (c.toNat : Int) = 91
      · rw [if_pos h2]; simp [h2]
      · rw [if_neg h2]
        by_cases h3 : (c.toNat : Int) = 93
        · rw [if_pos h3]; simp [h3]
        · rw [if_neg h3]
          have : decide (¬ (c.toNat : Int) < 32 ∧ (c.toNat : Int) ≠ 91 ∧ (c.toNat : Int) ≠ 93) = true := decide_eq_true ⟨h1, h2, h3⟩
          rw [this, Bool.true_and]
include hn in
theorem keyed_l0 : ∀ t : List UInt8, t <:+ L → ∃ k, line_keyed.l0 k (ba L) (L.length : Int) (pos L t) = some (t.all okK && (L != ([] : List UInt8))) := by
  intro t
  induction t with
  | nil =>
    intro hs
    refine ⟨1, ?_⟩
    rw [line_keyed.l0, if_neg (by unfold pos; simp), ba_toList]
    rfl
  | cons c t ih =>
    intro hs
    obtain ⟨k, hk⟩ := ih ((List.suffix_cons c t).trans hs)
    refine ⟨k + 1, ?_⟩
    rw [line_keyed.l0, ba_size, if_pos (pos_lt hs), if_pos (pos_ge hs), if_pos (pos_lt hs), bt_pos hs, pos_next hn hs, List.all_cons, hk]
    have good : ((97 ≤ (c.toNat : Int) ∧ (c.toNat : Int) ≤ 122) ∨ (65 ≤ (c.toNat : Int) ∧ (c.toNat : Int) ≤ 90) ∨ (48 ≤ (c.toNat : Int) ∧ (c.toNat : Int) ≤ 57)) → some (t.all okK && (L != ([] : List UInt8))) = some (okK c && t.all okK && (L != ([] : List UInt8))) := by
      intro h
      unfold okK
      rw [decide_eq_true h, Bool.true_and]
    have bad : ¬ ((97 ≤ (c.toNat : Int) ∧ (c.toNat : Int) ≤ 122) ∨ (65 ≤ (c.toNat : Int) ∧ (c.toNat : Int) ≤ 90) ∨ (48 ≤ (c.toNat : Int) ∧ (c.toNat : Int) ≤ 57)) → some false = some (okK c && t.all okK && (L != ([] : List UInt8))) := by
      intro h
      unfold okK
      rw [decide_eq_false h, Bool.false_and, Bool.false_and]
    repeat' split
    all_goals first | exact good (by omega) | exact bad (by omega)
end
def namedL (t : List UInt8) : Bool := t.all okN && (t != ([] : List UInt8))
def keyedL (t : List UInt8) : Bool := t.all okK && (t != ([] : List UInt8))
theorem pos_self (L : List UInt8) : pos L L = 0 := by unfold pos; omega
theorem named_f (t : List UInt8) (h : t.length ≤ 5000) : ∃ k, line_named.f k (ba t) = some (namedL t) := by
  obtain ⟨k, hk⟩ := named_l0 h t (List.suffix_refl _)
  rw [pos_self] at hk
  exact ⟨k, by unfold line_named.f; rw [ba_size]; exact hk⟩
theorem keyed_f (t : List UInt8) (h : t.length ≤ 5000) : ∃ k, line_keyed.f k (ba t) = some (keyedL t) := by
  obtain ⟨k, hk⟩ := keyed_l0 h t (List.suffix_refl _)
  rw [pos_self] at hk
  exact ⟨k, by unfold line_keyed.f; rw [ba_size]; exact hk⟩
def trm (t : List UInt8) : List UInt8 := Lib.trimS t [32, 9]
def trmL (t : List UInt8) : List UInt8 := Lib.trimLeftS t [32, 9]
def trmR (t : List UInt8) : List UInt8 := Lib.trimRightS t [32, 9]
def bad : Told := (0, ⟨#[]⟩, ⟨#[]⟩, 0, 50)
def readT (t : List UInt8) : Told :=
  if [91].isPrefixOf t = true then
    (if Lib.hasSuffix (t.drop 1) [93] = true then (if namedL ((t.drop 1).take ((t.drop 1).length - 1)) = true then (1, ba ((t.drop 1).take ((t.drop 1).length - 1)), ⟨#[]⟩, 0, 0) else bad) else bad)
  else (if (Lib.cut t [61]).2.2 = true then (if keyedL (trmR (Lib.cut t [61]).1) = true then (2, ba (trmR (Lib.cut t [61]).1), ba (trmL (Lib.cut t [61]).2.1), 0, 0) else bad) else bad)
/-- what line.read tells -/
def readF (t : List UInt8) : Told := if 400 < t.length then (0, ⟨#[]⟩, ⟨#[]⟩, 0, 51) else readT (trm t)
theorem trimS_le (t cs : List UInt8) : (Lib.trimS t cs).length ≤ t.length := by
  unfold Lib.trimS Lib.trimLeftS Lib.trimRightS
  refine Nat.le_trans (List.dropWhile_suffix _).length_le ?_
  rw [List.length_reverse]
  refine Nat.le_trans (List.dropWhile_suffix _).length_le ?_
  rw [List.length_reverse]
  exact Nat.le_refl _
theorem trimR_le (t cs : List UInt8) : (Lib.trimRightS t cs).length ≤ t.length := by
  unfold Lib.trimRightS
  rw [List.length_reverse]
  refine Nat.le_trans (List.dropWhile_suffix _).length_le ?_
  rw [List.length_reverse]
  exact Nat.le_refl _
theorem cut_le (t : List UInt8) : (Lib.cut t [61]).1.length ≤ t.length := by
  unfold Lib.cut
  split
  · simp only [List.length_take]; omega
  · exact Nat.le_refl _
theorem pfx (nm : List UInt8) (a0 : ByteArray) : nm.isPrefixOf a0.data.toList = true ↔ nm.length ≤ a0.size ∧ ((a0.extract 0 nm.length).toList == nm) = true := by
  have e : (a0.extract 0 nm.length).toList = a0.data.toList.take nm.length := by
    rw [Lib.toList_data, ByteArray.data_extract, Array.toList_extract]; simp
  have hz : a0.data.toList.length = a0.size := by rw [Array.length_toList]; rfl
  rw [e, beq_iff_eq, List.isPrefixOf_iff_prefix, List.prefix_iff_eq_take]
  constructor
  · intro h
    refine ⟨?_, h.symm⟩
    have := congrArg List.length h
    rw [List.length_take] at this
    omega
  · intro h; exact h.2.symm
theorem ba_drop (l : List UInt8) (n : Nat) : (ba l).extract n l.length = ba (l.drop n) := by
  unfold ba
  apply ByteArray.ext
  apply Array.ext'
  simp [ByteArray.data_extract]
  rw [List.take_of_length_le (by simp)]
theorem hasp (r p : List UInt8) : stringslite_HasPrefix.f (ba r) (ba p) = some (p.isPrefixOf r) := by
  unfold stringslite_HasPrefix.f
  have hp := pfx p (ba r)
  rw [ba_list, ba_size] at hp
  rw [ba_size, ba_size]
  by_cases h : p.length ≤ r.length
  · rw [if_pos (by omega), if_pos (by omega), if_pos (by omega), ba_toList, Int.toNat_natCast]
    congr 1
    rw [Bool.eq_iff_iff, hp]
    exact ⟨fun x => ⟨h, x⟩, fun x => x.2⟩
  · rw [if_neg (by omega)]
    congr 1
    symm
    rw [Bool.eq_false_iff]
    intro x
    exact h (hp.1 x).1
theorem cutp (r p : List UInt8) : strings_CutPrefix.f (ba r) (ba p) = some (if p.isPrefixOf r = true then (ba (r.drop p.length), true) else (ba r, false)) := by
  unfold strings_CutPrefix.f stringslite_CutPrefix.f
  rw [hasp, Option.bind_some]
  by_cases h : p.isPrefixOf r = true
  · have hle := (List.isPrefixOf_iff_prefix.1 h).length_le
    rw [if_pos h, if_pos h, ba_size, ba_size, if_pos (by omega), if_pos (by omega), Option.bind_some, Int.toNat_natCast, ba_drop]
  · rw [if_neg h, if_neg h]; rfl
theorem wrap_sub {a b : Nat} (h : b ≤ a) (h2 : a ≤ 5000) : wrap64 ((a : Int) - (b : Int)) = ((a - b : Nat) : Int) := by unfold wrap64; omega
theorem hass (r p : List UInt8) (h5 : r.length ≤ 5000) : stringslite_HasSuffix.f (ba r) (ba p) = some (Lib.hasSuffix r p) := by
  unfold stringslite_HasSuffix.f
  rw [ba_size, ba_size]
  by_cases h : p.length ≤ r.length
  · rw [if_pos (by omega), wrap_sub h h5, if_pos (by omega), if_pos (by omega), ba_toList, Int.toNat_natCast, ba_drop, ba_toList]
    congr 1
    rw [Bool.eq_iff_iff, beq_iff_eq]
    unfold Lib.hasSuffix
    rw [List.isSuffixOf_iff_suffix, List.suffix_iff_eq_drop]
    exact ⟨fun h => h.symm, fun h => h.symm⟩
  · rw [if_neg (by omega)]
    congr 1
    symm
    rw [Bool.eq_false_iff]
    intro x
    unfold Lib.hasSuffix at x
    exact h (List.isSuffixOf_iff_suffix.1 x).length_le
theorem cuts (r p : List UInt8) (h5 : r.length ≤ 5000) : strings_CutSuffix.f (ba r) (ba p) = some (if Lib.hasSuffix r p = true then (ba (r.take (r.length - p.length)), true) else (ba r, false)) := by
  unfold strings_CutSuffix.f stringslite_CutSuffix.f
  rw [hass r p h5, Option.bind_some]
  by_cases h : Lib.hasSuffix r p = true
  · have hle : p.length ≤ r.length := (List.isSuffixOf_iff_suffix.1 (show p.isSuffixOf r = true from h)).length_le
    rw [if_pos h, if_pos h, ba_size, ba_size, wrap_sub hle h5, if_pos (by omega), if_pos (by omega), Option.bind_some, Int.toNat_natCast, ba_take]
  · rw [if_neg h, if_neg h]; rfl
theorem read_total (t : List UInt8) : ∃ k, line_read.f k (ba t) = some (readF t) := by
  unfold readF
  by_cases h : 400 < t.length
  · refine ⟨0, ?_⟩
    unfold line_read.f
    rw [ba_size, if_pos (by omega), if_pos h]
  · rw [if_neg h]
    have htrim : strings_Trim.f (ba t) (⟨#[32, 9]⟩ : ByteArray) = some (ba (trm t)) := by
      unfold strings_Trim.f
      rw [if_pos ⟨rfl, by rw [ba_size]; omega⟩, ba_list]
      rfl
    have hle : (trm t).length ≤ t.length := trimS_le _ _
    obtain ⟨u, hu⟩ : ∃ u, trm t = u := ⟨_, rfl⟩
    rw [hu] at htrim hle ⊢
    have h1 : u.length ≤ 400 := by omega
    have hp := cutp u [91]
    have key : ∀ k, line_read.f k (ba t) = ((strings_CutPrefix.f (ba u) (⟨#[91]⟩ : ByteArray)).bind fun bt124 => (if bt124.2 = true then ((strings_CutSuffix.f bt124.1 (⟨#[93]⟩ : ByteArray)).bind fun bt126 => (if bt126.2 = true then ((line_named.f k bt126.1).bind fun t128 => (if t128 = true then (some (1, bt126.1, (⟨#[]⟩ : ByteArray), 0, 0)) else (some (0, (⟨#[]⟩ : ByteArray), (⟨#[]⟩ : ByteArray), 0, 50)))) else (some (0, (⟨#[]⟩ : ByteArray), (⟨#[]⟩ : ByteArray), 0, 50)))) else ((strings_Cut.f (ba u) (⟨#[61]⟩ : ByteArray)).bind fun bt129 => ((strings_TrimRight.f bt129.1 (⟨#[32, 9]⟩ : ByteArray)).bind fun t132 => (if bt129.2.2 = true then ((line_keyed.f k t132).bind fun t133 => (if t133 = true then ((strings_TrimLeft.f bt129.2.1 (⟨#[32, 9]⟩ : ByteArray)).bind fun t134 => (some (2, t132, t134, 0, 0))) else (some (0, (⟨#[]⟩ : ByteArray), (⟨#[]⟩ : ByteArray), 0, 50)))) else (some (0, (⟨#[]⟩ : ByteArray), (⟨#[]⟩ : ByteArray), 0, 50))))))) := by
      intro k
      unfold line_read.f
      rw [ba_size, if_neg (by omega), htrim, Option.bind_some]
    unfold readT
    by_cases hb : [91].isPrefixOf u = true
    · rw [if_pos hb] at hp ⊢
      have hs := cuts (u.drop 1) [93] (by rw [List.length_drop]; omega)
      by_cases hc : Lib.hasSuffix (u.drop 1) [93] = true
      · rw [if_pos hc] at hs ⊢
        obtain ⟨k, hk⟩ := named_f ((u.drop 1).take ((u.drop 1).length - 1)) (by rw [List.length_take, List.length_drop]; omega)
        refine ⟨k, ?_⟩
        rw [key k, show (⟨#[91]⟩ : ByteArray) = ba [91] from rfl, hp, Option.bind_some, if_pos rfl]
        show (strings_CutSuffix.f (ba (u.drop 1)) (ba [93])).bind _ = _
        rw [hs, Option.bind_some, if_pos rfl]
        show (line_named.f k (ba ((u.drop 1).take ((u.drop 1).length - 1)))).bind _ = _
        rw [hk, Option.bind_some]
        split <;> rfl
      · rw [if_neg hc] at hs ⊢
        refine ⟨0, ?_⟩
        rw [key 0, show (⟨#[91]⟩ : ByteArray) = ba [91] from rfl, hp, Option.bind_some, if_pos rfl]
        show (strings_CutSuffix.f (ba (u.drop 1)) (ba [93])).bind _ = _
        rw [hs]; rfl
    · rw [if_neg hb] at hp ⊢
      have hcut : strings_Cut.f (ba u) (⟨#[61]⟩ : ByteArray) = some (ba (Lib.cut u [61]).1, ba (Lib.cut u [61]).2.1, (Lib.cut u [61]).2.2) := by
        unfold strings_Cut.f
        rw [ba_size, if_pos (by omega), ba_list]
        rfl
      have hcl := cut_le u
      have htr : strings_TrimRight.f (ba (Lib.cut u [61]).1) (⟨#[32, 9]⟩ : ByteArray) = some (ba (trmR (Lib.cut u [61]).1)) := by
        unfold strings_TrimRight.f
        rw [if_pos ⟨rfl, by rw [ba_size]; omega⟩, ba_list]
        rfl
      have htl : strings_TrimLeft.f (ba (Lib.cut u [61]).2.1) (⟨#[32, 9]⟩ : ByteArray) = some (ba (trmL (Lib.cut u [61]).2.1)) := by
        unfold strings_TrimLeft.f
        rw [if_pos rfl, ba_list]
        rfl
      have hrl : (trmR (Lib.cut u [61]).1).length ≤ (Lib.cut u [61]).1.length := trimR_le _ _
      obtain ⟨k, hk⟩ := keyed_f (trmR (Lib.cut u [61]).1) (by omega)
      refine ⟨k, ?_⟩
      rw [key k, show (⟨#[91]⟩ : ByteArray) = ba [91] from rfl, hp, Option.bind_some, if_neg (show ¬ ((ba u, false).2 = true) from Bool.false_ne_true), hcut, Option.bind_some]
      show (strings_TrimRight.f (ba (Lib.cut u [61]).1) _).bind _ = _
      rw [htr, Option.bind_some]
      by_cases hc : (Lib.cut u [61]).2.2 = true
      · rw [if_pos hc, if_pos hc, hk, Option.bind_some]
        by_cases hd : keyedL (trmR (Lib.cut u [61]).1) = true
        · rw [if_pos hd, if_pos hd]
          show (strings_TrimLeft.f (ba (Lib.cut u [61]).2.1) _).bind _ = _
          rw [htl]; rfl
        · rw [if_neg hd, if_neg hd]; rfl
      · rw [if_neg hc, if_neg hc]; rfl
/-- a text's rows -/
def consR (c : UInt8) : List (List UInt8) → List (List UInt8)
  | [] => [[c]]
  | r :: rs => (c :: r) :: rs
def rowsL : List UInt8 → List (List UInt8)
  | [] => [[]]
  | c :: t => if c = 10 then [] :: rowsL t else consR c (rowsL t)
theorem splitK_cons (c : UInt8) (hc : c ≠ 10) (k : Nat) (l : List UInt8) : Lib.splitK [10] 0 k (c :: l) = consR c (Lib.splitK [10] 0 k l) := by
  cases k with
  | zero => rfl
  | succ k =>
    unfold Lib.splitK
    have e : Lib.index (c :: l) [10] = if Lib.index l [10] == -1 then -1 else Lib.index l [10] + 1 := by
      rw [Lib.index_one, Lib.index_one, Lib.indexByte, if_neg (by simpa using hc)]
    rw [e]
    by_cases h : (Lib.index l [10] == -1) = true
    · rw [if_pos h, if_pos h]
      rfl
    · rw [if_neg h, if_neg h]
      have hge : 0 ≤ Lib.index l [10] := by
        rcases Lib.index_spec l [10] with ⟨h1, _⟩ | ⟨i, h1, _⟩
        · rw [h1] at h; exact absurd rfl h
        · omega
      have hne : ¬ ((Lib.index l [10] + 1 == -1) = true) := by rw [beq_iff_eq]; omega
      rw [if_neg hne]
      have ht : (Lib.index l [10] + 1).toNat = (Lib.index l [10]).toNat + 1 := by omega
      rw [ht]
      simp [consR]
theorem splitK_rows : ∀ l : List UInt8, Lib.splitK [10] 0 (l.count 10) l = rowsL l := by
  intro l
  induction l with
  | nil => rfl
  | cons c l ih =>
    unfold rowsL
    by_cases hc : c = 10
    · subst hc
      rw [List.count_cons_self, if_pos rfl, ← ih]
      rw [Lib.splitK]
      have e : Lib.index (10 :: l) [10] = 0 := by rw [Lib.index_one, Lib.indexByte, if_pos (by decide)]
      rw [e]
      rfl
    · rw [List.count_cons_of_ne hc, if_neg hc, ← ih, splitK_cons c hc]
theorem rows_of (s : List UInt8) : Lib.splitB ⟨#[10]⟩ 0 (Lib.countB (ba s) ⟨#[10]⟩) (ba s) = (rowsL s).map ba := by
  have h := Lib.splitB_data ⟨#[10]⟩ 0 (Lib.countB (ba s) ⟨#[10]⟩) (ba s)
  have hc : Lib.countB (ba s) ⟨#[10]⟩ = s.count 10 := by
    have : Lib.countB (ba s) ⟨#[10]⟩ = Lib.count s [10] := by rw [Lib.countB, ba_list]
    rw [this, Lib.count_one]
  have h2 : Lib.splitK [10] 0 (s.count 10) s = rowsL s := splitK_rows s
  rw [ba_list] at h
  have h3 : (Lib.splitB ⟨#[10]⟩ 0 (Lib.countB (ba s) ⟨#[10]⟩) (ba s)).map (·.data.toList) = rowsL s := by
    rw [h, hc]; exact h2
  rw [← h3, List.map_map]
  symm
  rw [List.map_congr_left (g := id)]
  · simp
  · intro a _
    exact ba_of a
theorem tot_consR (c : UInt8) (l : List (List UInt8)) : tot (consR c l) = tot l + 1 := by
  cases l with
  | nil => rfl
  | cons r rs => rw [consR, tot_cons, tot_cons, List.length_cons]; omega
theorem tot_rows (s : List UInt8) : tot (rowsL s) ≤ s.length := by
  induction s with
  | nil => exact Nat.le_refl _
  | cons c s ih =>
    unfold rowsL
    split
    · rw [tot_cons, List.length_nil, List.length_cons]; omega
    · rw [tot_consR, List.length_cons]; omega
end Go.Proofs.YtaihipdebmcmhaaDoor.Lines
