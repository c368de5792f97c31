/- The reference's lines are line.Lines' lines. -/
import Derived.Test.YtbigbjfppaenfaaDoorRefF0
namespace Go.Proofs.YtbigbjfppaenfaaDoor.Lines
open Go.RowKit Go.Proofs.YtbigbjfppaenfaaDoorW.PrintWords Go.Proofs.YtbigbjfppaenfaaDoorW.PrintLast
set_option linter.unusedVariables false
set_option linter.unusedSectionVars false
set_option linter.unusedSimpArgs false
/-- from some fuel on -/
def EvS {α : Type} (f : Nat → Option α) (r : α) : Prop := ∃ K, ∀ n, K ≤ n → f n = some r
theorem EvS.pure {α : Type} {f : Nat → Option α} {r : α} (h : ∀ n, f (n + 1) = some r) : EvS f r := ⟨1, fun n hn => by obtain ⟨m, rfl⟩ : ∃ m, n = m + 1 := ⟨n - 1, by omega⟩; exact h m⟩
theorem EvS.step {α : Type} {f g : Nat → Option α} {r : α} (h : EvS g r) (e : ∀ n, f (n + 1) = g n) : EvS f r := by
  obtain ⟨K, h⟩ := h
  exact ⟨K + 1, fun n hn => by obtain ⟨m, rfl⟩ : ∃ m, n = m + 1 := ⟨n - 1, by omega⟩; rw [e]; exact h m (by omega)⟩
theorem EvS.bind {α β : Type} {f : Nat → Option α} {g : Nat → α → Option β} {r : α} {q : β} (h : EvS f r) (h2 : EvS (fun k => g k r) q) : EvS (fun k => (f k).bind (g k)) q := by
  obtain ⟨K, h⟩ := h
  obtain ⟨K2, h2⟩ := h2
  exact ⟨K + K2, fun n hn => by show (f n).bind (g n) = _; rw [h n (by omega), Option.bind_some]; exact h2 n (by omega)⟩
theorem EvS.some {α : Type} (r : α) : EvS (fun _ => Option.some r) r := ⟨0, fun _ _ => rfl⟩
theorem EvS.eqn {α : Type} {f g : Nat → Option α} {r : α} (h : EvS g r) (e : ∀ n, f n = g n) : EvS f r := by
  obtain ⟨K, h⟩ := h
  exact ⟨K, fun n hn => by rw [e]; exact h n hn⟩
theorem EvS.get {α : Type} {f : Nat → Option α} {r : α} (h : EvS f r) : ∃ k, f k = Option.some r := by
  obtain ⟨K, h⟩ := h
  exact ⟨K, h K (Nat.le_refl _)⟩
section
variable {L : List UInt8}
theorem pos_nil : pos L [] = (L.length : Int) := by unfold pos; simp
theorem cut_pos {w t : List UInt8} (hs : (w ++ t) <:+ L) : (ba L).extract (pos L (w ++ t)).toNat (pos L t).toNat = ba w := by
  have hs2 : t <:+ L := (List.suffix_append w t).trans hs
  rw [pos_nat hs, pos_nat hs2]
  obtain ⟨p, hp⟩ := hs
  rw [← hp]
  unfold ba
  apply ByteArray.ext
  apply Array.ext'
  simp [ByteArray.data_extract]
  rw [show p.length + (w.length + t.length) - t.length - p.length = w.length by omega]
  simp
theorem tail_pos {t : List UInt8} (hs : t <:+ L) : (ba L).extract (pos L t).toNat L.length = ba t := by
  have h := cut_pos (w := t) (t := []) (by simpa using hs)
  rw [List.append_nil, pos_nil] at h
  simpa using h
theorem pos_le {w t : List UInt8} (hs : (w ++ t) <:+ L) : pos L (w ++ t) ≤ pos L t ∧ pos L t ≤ (L.length : Int) := by
  have h1 := hs.length_le
  unfold pos; simp at *; omega
end
theorem toNat_eq {c : UInt8} {n : Nat} (hn : n < 256) : ((c.toNat : Int) = (n : Int)) ↔ c = UInt8.ofNat n := by
  constructor
  · intro h
    have h : c.toNat = n := by omega
    rw [← h]; simp
  · rintro rfl
    simp
    omega
/-- the row under way ahead of what is left -/
def glue (cur : List UInt8) : List (List UInt8) → List (List UInt8)
  | [] => [cur]
  | r :: rs => (cur ++ r) :: rs
theorem rowsL_cons (t : List UInt8) : ∃ r rs, rowsL t = r :: rs := by
  cases t with
  | nil => exact ⟨_, _, rfl⟩
  | cons c t =>
    unfold rowsL
    split
    · exact ⟨_, _, rfl⟩
    · cases rowsL t <;> exact ⟨_, _, rfl⟩
theorem glue_nil (t : List UInt8) : glue [] (rowsL t) = rowsL t := by
  obtain ⟨r, rs, h⟩ := rowsL_cons t
  rw [h]; rfl
theorem raw_l0 {L : List UInt8} (hn : L.length ≤ 5000) : ∀ (t cur : List UInt8) (acc : List ByteArray), (cur ++ t) <:+ L → acc.length + t.length ≤ 8000 →
    EvS (fun k => reveilleref5_raw.l0 k (ba L) acc (pos L (cur ++ t)) (pos L t)) (acc ++ (glue cur (rowsL t)).map ba) := by
  intro t
  induction t with
  | nil =>
    intro cur acc hs hl
    refine EvS.pure fun n => ?_
    have h1 := pos_ge hs
    have h2 := (pos_le hs).1
    rw [pos_nil] at h2
    rw [reveilleref5_raw.l0, ba_size, if_neg (by rw [pos_nil]; omega), if_pos h1, if_pos h2, if_pos (by simp at hl; omega)]
    rw [List.append_nil] at hs ⊢
    rw [tail_pos hs]
    simp [glue, rowsL]
  | cons c t ih =>
    intro cur acc hs hl
    have hs2 : (c :: t) <:+ L := (List.suffix_append cur (c :: t)).trans hs
    have hs3 : t <:+ L := (List.suffix_cons c t).trans hs2
    have h1 := pos_ge hs
    have h2 := (pos_le hs).1
    have h3 := (pos_le hs).2
    rw [List.length_cons] at hl
    by_cases hc : c = 10
    · subst hc
      have := ih [] (acc ++ [ba cur]) (by simpa using hs3) (by simp; omega)
      rw [glue_nil] at this
      have e : acc ++ (glue cur (rowsL (10 :: t))).map ba = acc ++ [ba cur] ++ (rowsL t).map ba := by
        rw [rowsL, if_pos rfl]; simp [glue]
      rw [e]
      refine EvS.step this fun n => ?_
      rw [reveilleref5_raw.l0, ba_size, if_pos (pos_lt hs2), if_pos (pos_ge hs2), bt_pos hs2, if_pos (by decide), if_pos h1, if_pos h2, if_pos h3, if_pos (by omega), cut_pos hs, pos_next hn hs2]
      rfl
    · have := ih (cur ++ [c]) acc (by simpa using hs) (by omega)
      have e : glue cur (rowsL (c :: t)) = glue (cur ++ [c]) (rowsL t) := by
        obtain ⟨r, rs, h⟩ := rowsL_cons t
        rw [rowsL, if_neg hc, h]
        simp [glue, consR]
      rw [e]
      refine EvS.step this fun n => ?_
      rw [reveilleref5_raw.l0, ba_size, if_pos (pos_lt hs2), if_pos (pos_ge hs2), bt_pos hs2, if_neg (show ¬ ((c.toNat : Int) = 10) from fun h => hc ((toNat_eq (n := 10) (by decide)).1 h)), pos_next hn hs2]
      rw [show cur ++ c :: t = cur ++ [c] ++ t by simp]
theorem raw_ev (L : List UInt8) (hn : L.length ≤ 5000) : EvS (fun k => reveilleref5_raw.f k (ba L)) ((rowsL L).map ba) := by
  have := raw_l0 hn L [] [] (List.suffix_refl _) (by simp; omega)
  rw [glue_nil, List.nil_append, List.nil_append, pos_self] at this
  exact EvS.eqn this fun n => rfl
def blk (c : UInt8) : Bool := ([32, 9] : List UInt8).contains c
theorem blank_f (c : UInt8) : reveilleref5_Blank.f (c.toNat : Int) = some (blk c) := by
  unfold reveilleref5_Blank.f blk
  by_cases h : (c.toNat : Int) = 32
  · rw [if_pos h, (toNat_eq (n := 32) (by decide)).1 h]
    rfl
  · rw [if_neg h]
    have h1 : c ≠ 32 := fun e => h ((toNat_eq (n := 32) (by decide)).2 e)
    by_cases h2 : (c.toNat : Int) = 9
    · rw [beq_iff_eq.2 h2, (toNat_eq (n := 9) (by decide)).1 h2]
      rfl
    · rw [beq_eq_false_iff_ne.2 h2]
      have h3 : c ≠ 9 := fun e => h2 ((toNat_eq (n := 9) (by decide)).2 e)
      congr 1
      symm
      rw [Bool.eq_false_iff]
      intro e
      have := List.contains_iff_mem.1 e
      simp at this
      rcases this with h | h
      · exact h1 h
      · exact h3 h
theorem trmL_cons (c : UInt8) (t : List UInt8) : trmL (c :: t) = if blk c = true then trmL t else c :: t := by
  unfold trmL Lib.trimLeftS blk
  rw [List.dropWhile_cons]
theorem trmR_snoc (c : UInt8) (t : List UInt8) : trmR (t ++ [c]) = if blk c = true then trmR t else t ++ [c] := by
  unfold trmR Lib.trimRightS blk
  rw [List.reverse_append, List.reverse_singleton, List.singleton_append, List.dropWhile_cons]
  split
  · rfl
  · simp
theorem trmR_nil : trmR [] = [] := rfl
theorem trmR_def (t : List UInt8) : trmR t = (t.reverse.dropWhile blk).reverse := rfl
theorem trmR_cons (c : UInt8) (t : List UInt8) : trmR (c :: t) = if trmR t = [] ∧ blk c = true then [] else c :: trmR t := by
  rw [trmR_def, trmR_def, List.reverse_cons, List.dropWhile_append]
  by_cases h : t.reverse.dropWhile blk = []
  · rw [h, List.isEmpty_nil, if_pos rfl, List.dropWhile_cons]
    by_cases hc : blk c = true
    · rw [if_pos hc, if_pos ⟨rfl, hc⟩]; rfl
    · rw [if_neg hc, if_neg (fun x => hc x.2)]; rfl
  · have h2 : (t.reverse.dropWhile blk).isEmpty = false := by
      rw [List.isEmpty_eq_false_iff]; exact h
    rw [h2, if_neg (by decide), List.reverse_append, if_neg (fun x => h (List.reverse_eq_nil_iff.1 x.1))]
    rfl
theorem trm_eq (t : List UInt8) : trm t = trmR (trmL t) := by
  show trmL (trmR t) = _
  induction t with
  | nil => rfl
  | cons c t ih =>
    rw [trmL_cons]
    by_cases hc : blk c = true
    · rw [if_pos hc, ← ih, trmR_cons]
      by_cases h : trmR t = []
      · rw [if_pos ⟨h, hc⟩, h]
      · rw [if_neg (fun x => h x.1), trmL_cons, if_pos hc]
    · rw [if_neg hc, trmR_cons, if_neg (fun x => hc x.2), trmL_cons, if_neg hc]
theorem trmR_le (t : List UInt8) : (trmR t).length ≤ t.length := trimR_le t _
theorem trmL_suffix (t : List UInt8) : trmL t <:+ t := List.dropWhile_suffix _
section
variable {L : List UInt8} (hn : L.length ≤ 5000)
theorem ext_pos {u : List UInt8} (hs : u <:+ L) (m : Nat) (hm : m ≤ u.length) : (ba L).extract (pos L u).toNat (pos L u + (m : Int)).toNat = ba (u.take m) := by
  have e : u = u.take m ++ u.drop m := (List.take_append_drop m u).symm
  have hs' : (u.take m ++ u.drop m) <:+ L := by rw [← e]; exact hs
  have h := cut_pos hs'
  have e2 : pos L (u.drop m) = pos L u + (m : Int) := by
    unfold pos; rw [List.length_drop]; omega
  rw [← e, e2] at h
  exact h
theorem bt_at2 {u : List UInt8} (hs : u <:+ L) (m : Nat) (c : UInt8) (hc : u[m]? = some c) : bt (ba L) (pos L u + (m : Int)) = (c.toNat : Int) := by
  rw [pos_nat hs, ← Int.natCast_add]
  refine bt_list _ _ c ?_
  rw [ba_list, at_get hs]
  exact hc
include hn in
theorem trim_l1 {u : List UInt8} (hs : u <:+ L) : ∀ m : Nat, m ≤ u.length → EvS (fun k => reveilleref5_Trim.l1 k (ba L) (pos L u) (pos L u + (m : Int))) (ba (trmR (u.take m))) := by
  have h0 := pos_ge hs
  have hul := hs.length_le
  have hpl : pos L u + (u.length : Int) = (L.length : Int) := by unfold pos; omega
  intro m
  induction m with
  | zero =>
    intro hm
    refine EvS.pure fun n => ?_
    rw [reveilleref5_Trim.l1, ba_size, if_neg (by omega), if_pos h0, if_pos (by omega), if_pos (by omega), ext_pos hs 0 hm]
    rfl
  | succ m ih =>
    intro hm
    have hmlt : m < u.length := hm
    obtain ⟨c, hc⟩ : ∃ c, u[m]? = some c := ⟨u[m], List.getElem?_eq_getElem hmlt⟩
    have ht : u.take (m + 1) = u.take m ++ [c] := by
      rw [List.take_add_one, hc]; rfl
    have hw : wrap64 (pos L u + ((m + 1 : Nat) : Int) - 1) = pos L u + (m : Int) := by unfold wrap64; omega
    rw [ht, trmR_snoc]
    by_cases hb : blk c = true
    · rw [if_pos hb]
      refine EvS.step (ih (by omega)) fun n => ?_
      rw [reveilleref5_Trim.l1, ba_size, if_pos (by omega), hw, if_pos (by omega), if_pos (by omega), bt_at2 hs m c hc, blank_f, Option.bind_some, if_pos hb]
    · rw [if_neg hb, ← ht]
      refine EvS.pure fun n => ?_
      rw [reveilleref5_Trim.l1, ba_size, if_pos (by omega), hw, if_pos (by omega), if_pos (by omega), bt_at2 hs m c hc, blank_f, Option.bind_some, if_neg hb, if_pos h0, if_pos (by omega), if_pos (by omega), ext_pos hs (m + 1) hm]
include hn in
theorem trim_l0 : ∀ t : List UInt8, t <:+ L → EvS (fun k => reveilleref5_Trim.l0 k (ba L) (pos L t) (L.length : Int)) (ba (trmR (trmL t))) := by
  intro t
  induction t with
  | nil =>
    intro hs
    have := trim_l1 hn hs 0 (Nat.zero_le _)
    rw [show pos L [] + ((0 : Nat) : Int) = (L.length : Int) by unfold pos; simp] at this
    refine EvS.step (EvS.step this (f := fun n => reveilleref5_Trim.j1 n (ba L) (pos L []) (L.length : Int)) fun n => ?_) fun n => ?_
    · rw [reveilleref5_Trim.j1]
    · rw [reveilleref5_Trim.l0, if_neg (by unfold pos; simp)]
  | cons c t ih =>
    intro hs
    rw [trmL_cons]
    by_cases hb : blk c = true
    · rw [if_pos hb]
      refine EvS.step (ih ((List.suffix_cons c t).trans hs)) fun n => ?_
      rw [reveilleref5_Trim.l0, ba_size, if_pos (pos_lt hs), if_pos (pos_ge hs), if_pos (pos_lt hs), bt_pos hs, blank_f, Option.bind_some, if_pos hb, pos_next hn hs]
    · rw [if_neg hb]
      have := trim_l1 hn hs (c :: t).length (Nat.le_refl _)
      rw [List.take_length, show pos L (c :: t) + (((c :: t).length : Nat) : Int) = (L.length : Int) by unfold pos; omega] at this
      refine EvS.step (EvS.step this (f := fun n => reveilleref5_Trim.j1 n (ba L) (pos L (c :: t)) (L.length : Int)) fun n => ?_) fun n => ?_
      · rw [reveilleref5_Trim.j1]
      · rw [reveilleref5_Trim.l0, ba_size, if_pos (pos_lt hs), if_pos (pos_ge hs), if_pos (pos_lt hs), bt_pos hs, blank_f, Option.bind_some, if_neg hb]
end
theorem trim_ev (L : List UInt8) (hn : L.length ≤ 5000) : EvS (fun k => reveilleref5_Trim.f k (ba L)) (ba (trm L)) := by
  have := trim_l0 hn L (List.suffix_refl _)
  rw [pos_self, ← trm_eq] at this
  exact EvS.eqn this fun n => by unfold reveilleref5_Trim.f; rw [ba_size]
section
variable {L : List UInt8} (hn : L.length ≤ 5000)
include hn in
theorem section_l0 : ∀ t : List UInt8, t <:+ L → EvS (fun k => reveilleref5_section.l0 k (ba L) (pos L t)) (t.all okN && decide ((L.length : Int) > 0)) := by
  intro t
  induction t with
  | nil =>
    intro hs
    refine EvS.pure fun n => ?_
    rw [reveilleref5_section.l0, ba_size, if_neg (by unfold pos; simp)]
    rfl
  | cons c t ih =>
    intro hs
    have hk := ih ((List.suffix_cons c t).trans hs)
    rw [List.all_cons]
    have good : (¬ (c.toNat : Int) < 32 ∧ (c.toNat : Int) ≠ 91 ∧ (c.toNat : Int) ≠ 93) → okN c = true := fun h => by unfold okN; exact decide_eq_true h
    have bad : ¬ (¬ (c.toNat : Int) < 32 ∧ (c.toNat : Int) ≠ 91 ∧ (c.toNat : Int) ≠ 93) → okN c = false := fun h => by unfold okN; exact decide_eq_false h
    by_cases h : (¬ (c.toNat : Int) < 32 ∧ (c.toNat : Int) ≠ 91 ∧ (c.toNat : Int) ≠ 93)
    · rw [good h, Bool.true_and]
      refine EvS.step hk fun n => ?_
      rw [reveilleref5_section.l0, ba_size, if_pos (pos_lt hs), if_pos (pos_ge hs), bt_pos hs, if_neg h.2.1, if_neg h.2.2, if_neg h.1, pos_next hn hs]
    · rw [bad h, Bool.false_and, Bool.false_and]
      refine EvS.pure fun n => ?_
      rw [reveilleref5_section.l0, ba_size, if_pos (pos_lt hs), if_pos (pos_ge hs), bt_pos hs]
      by_cases h1 : (c.toNat : Int) = 91
      · rw [if_pos h1]
      · rw [if_neg h1]
        by_cases h2 : (c.toNat : Int) = 93
        · rw [if_pos h2]
        · rw [if_neg h2, if_pos (by omega)]
include hn in
theorem key_l0 : ∀ t : List UInt8, t <:+ L → EvS (fun k => reveilleref5_key.l0 k (ba L) (pos L t)) (t.all okK && decide ((L.length : Int) > 0)) := by
  intro t
  induction t with
  | nil =>
    intro hs
    refine EvS.pure fun n => ?_
    rw [reveilleref5_key.l0, ba_size, if_neg (by unfold pos; simp)]
    rfl
  | cons c t ih =>
    intro hs
    have hk := ih ((List.suffix_cons c t).trans hs)
    rw [List.all_cons]
    by_cases h : ((97 ≤ (c.toNat : Int) ∧ (c.toNat : Int) ≤ 122) ∨ (65 ≤ (c.toNat : Int) ∧ (c.toNat : Int) ≤ 90) ∨ (48 ≤ (c.toNat : Int) ∧ (c.toNat : Int) ≤ 57))
    · have e : okK c = true := by unfold okK; exact decide_eq_true h
      rw [e, Bool.true_and]
      refine EvS.step hk fun n => ?_
      rw [reveilleref5_key.l0, ba_size, if_pos (pos_lt hs), if_pos (pos_ge hs), bt_pos hs, pos_next hn hs]
      repeat' split
      all_goals first | rfl | (exfalso; omega)
    · have e : okK c = false := by unfold okK; exact decide_eq_false h
      rw [e, Bool.false_and, Bool.false_and]
      refine EvS.pure fun n => ?_
      rw [reveilleref5_key.l0, ba_size, if_pos (pos_lt hs), if_pos (pos_ge hs), bt_pos hs]
      repeat' split
      all_goals first | rfl | (exfalso; omega)
end
theorem ne_nil (t : List UInt8) : decide ((t.length : Int) > 0) = (t != ([] : List UInt8)) := by
  cases t with
  | nil => rfl
  | cons c t => rw [List.length_cons, decide_eq_true (by omega)]; rfl
theorem section_ev (t : List UInt8) (h : t.length ≤ 5000) : EvS (fun k => reveilleref5_section.f k (ba t)) (namedL t) := by
  have := section_l0 h t (List.suffix_refl _)
  rw [pos_self, ne_nil] at this
  exact this
theorem key_ev (t : List UInt8) (h : t.length ≤ 5000) : EvS (fun k => reveilleref5_key.f k (ba t)) (keyedL t) := by
  have := key_l0 h t (List.suffix_refl _)
  rw [pos_self, ne_nil] at this
  exact this
end Go.Proofs.YtbigbjfppaenfaaDoor.Lines
