/- The plain law of SpanReads: what both read. -/
import Derived.Test.YtfpfdeechhaheaaDoorReadsP
namespace Go.Proofs.YtfpfdeechhaheaaDoor.Reads
open Go.RowKit Go.Proofs.YtfpfdeechhaheaaDoorW.PrintWords Go.Proofs.YtfpfdeechhaheaaDoorW.PrintLast
set_option linter.unusedVariables false
set_option linter.unusedSectionVars false
set_option linter.unusedSimpArgs false
/-- from some fuel on -/
def EvS {α : Type} (f : Nat → Option α) (r : α) : Prop := ∃ K, ∀ n, K ≤ n → f n = some r
theorem EvS.of {α : Type} {f : Nat → Option α} (hm : ∀ k, LeO (f k) (f (k + 1))) {r : α} (h : ∃ k, f k = some r) : EvS f r := by
  obtain ⟨k, h⟩ := h
  exact ⟨k, fun n hn => leO_le hm hn _ h⟩
theorem EvS.pure {α : Type} {f : Nat → Option α} {r : α} (h : ∀ n, f (n + 1) = some r) : EvS f r :=
  ⟨1, fun n hn => by obtain ⟨m, rfl⟩ : ∃ m, n = m + 1 := ⟨n - 1, by omega⟩; exact h m⟩
theorem EvS.step {α : Type} {f g : Nat → Option α} {r : α} (h : EvS g r) (e : ∀ n, f (n + 1) = g n) : EvS f r := by
  obtain ⟨K, h⟩ := h
  exact ⟨K + 1, fun n hn => by obtain ⟨m, rfl⟩ : ∃ m, n = m + 1 := ⟨n - 1, by omega⟩; rw [e, h m (by omega)]⟩
theorem EvS.bind {α β : Type} {f : Nat → Option α} {g : Nat → α → Option β} {r : α} {q : β} (h : EvS f r) (h2 : EvS (fun k => g k r) q) : EvS (fun k => (f k).bind (g k)) q := by
  obtain ⟨K, h⟩ := h
  obtain ⟨K2, h2⟩ := h2
  exact ⟨K + K2, fun n hn => by simp only []; rw [h n (by omega), Option.bind_some]; exact h2 n (by omega)⟩
theorem EvS.some {α : Type} (r : α) : EvS (fun _ => some r) r := ⟨0, fun _ _ => rfl⟩
theorem EvS.eqn {α : Type} {f g : Nat → Option α} {r : α} (h : EvS g r) (e : ∀ n, f n = g n) : EvS f r := by
  have : f = g := funext e
  rw [this]; exact h
theorem EvS.atLeast {α : Type} {f : Nat → Option α} {r : α} (m : Nat) (h : ∀ n, f (n + m) = Option.some r) : EvS f r :=
  ⟨m, fun n hn => by obtain ⟨j, rfl⟩ : ∃ j, n = j + m := ⟨n - m, by omega⟩; exact h j⟩

/-! ### what a text is -/
theorem take_all (p : UInt8 → Bool) : ∀ l : List UInt8, (l.takeWhile p).all p = true := by
  intro l
  induction l with
  | nil => rfl
  | cons c l ih =>
    by_cases h : p c = true
    · rw [List.takeWhile_cons_of_pos h, List.all_cons, h, ih]; rfl
    · rw [List.takeWhile_cons_of_neg h]; rfl
theorem drop_nil (p : UInt8 → Bool) : ∀ l : List UInt8, l.dropWhile p = [] ↔ ∀ x ∈ l, p x = true := by
  intro l
  induction l with
  | nil => simp
  | cons c l ih =>
    by_cases h : p c = true
    · rw [List.dropWhile_cons_of_pos h, ih]; simp [h]
    · rw [List.dropWhile_cons_of_neg h]
      constructor
      · intro x; exact nomatch x
      · intro x; exact absurd (x c (List.mem_cons_self ..)) h
def d32 (l : List UInt8) : List UInt8 := l.dropWhile (· == 32)
def units1 : List (List UInt8 × Int) := [([115, 101, 99], 1), ([115], 1), ([109, 105, 110], 60), ([109], 60), ([104, 114], 3600), ([104], 3600), ([100], 86400), ([119], 604800)]
def fu (u : List (List UInt8 × Int)) (r : List UInt8) : Option (Int × Nat) := match u.find? (fun x => x.1.isPrefixOf r) with | some x => some (x.2, x.1.length) | none => none
def part (t : List UInt8) : Option (Int × List UInt8) :=
  if (t.takeWhile isdig).length = 0 ∨ (t.takeWhile isdig).length > 18 then none else
  match fu unitNames (d32 (t.dropWhile isdig)) with
  | some x => some (tv ((numOf 0 (t.takeWhile isdig) : Int) * x.1), d32 ((d32 (t.dropWhile isdig)).drop x.2))
  | none => if d32 (t.dropWhile isdig) = [] then some (tv ((numOf 0 (t.takeWhile isdig) : Int) * 1), []) else none
def sum : Nat → List UInt8 → Int → Int × Int
  | 0, _, _ => (0, 10)
  | n + 1, t, acc =>
    match part t with
    | none => (0, 10)
    | some (v, []) => (tv (acc + v), 0)
    | some (v, c :: r) => sum n (c :: r) (tv (acc + v))
theorem d32_suffix (l : List UInt8) : d32 l <:+ l := List.dropWhile_suffix _
theorem part_shorter {t r : List UInt8} {v : Int} (h : part t = some (v, r)) : r.length < t.length := by
  have e : t.takeWhile isdig ++ t.dropWhile isdig = t := List.takeWhile_append_dropWhile
  have el := congrArg List.length e
  rw [List.length_append] at el
  have hd := (d32_suffix (t.dropWhile isdig)).length_le
  unfold part at h
  split at h
  · exact nomatch h
  · split at h
    · rename_i x hx
      injection h with h; injection h with h1 h2
      have h3 := (d32_suffix ((d32 (t.dropWhile isdig)).drop x.2)).length_le
      rw [List.length_drop, h2] at h3
      omega
    · split at h
      · injection h with h; injection h with h1 h2
        subst h2
        simp; omega
      · exact nomatch h
theorem fu_same (r : List UInt8) : fu units1 r = fu unitNames r := by
  cases r with
  | nil => rfl
  | cons c r =>
    unfold fu units1 unitNames
    by_cases h1 : c = 115
    · subst h1
      cases h : ([101, 99] : List UInt8).isPrefixOf r <;> simp [List.find?, List.isPrefixOf, h]
    · by_cases h2 : c = 109
      · subst h2
        cases h : ([105, 110] : List UInt8).isPrefixOf r <;> simp [List.find?, List.isPrefixOf, h]
      · by_cases h3 : c = 104
        · subst h3
          cases h : ([114] : List UInt8).isPrefixOf r <;> simp [List.find?, List.isPrefixOf, h]
        · have e1 : ((115 : UInt8) == c) = false := by simpa using fun h => h1 h.symm
          have e2 : ((109 : UInt8) == c) = false := by simpa using fun h => h2 h.symm
          have e3 : ((104 : UInt8) == c) = false := by simpa using fun h => h3 h.symm
          simp [List.find?, List.isPrefixOf, e1, e2, e3]
theorem fu_sec {u : List (List UInt8 × Int)} (hu : ∀ x ∈ u, 0 ≤ x.2 ∧ x.2 < 1048576 ∧ 0 < x.1.length ∧ (32 : UInt8) ∉ x.1) {r : List UInt8} {x : Int × Nat} (h : fu u r = some x) : 0 ≤ x.1 ∧ x.1 < 1048576 ∧ 0 < x.2 ∧ x.2 ≤ r.length := by
  unfold fu at h
  split at h
  · rename_i y hy
    injection h with h
    subst h
    have hp := List.find?_some hy
    have hm := List.mem_of_find?_eq_some hy
    have h1 := hu y hm
    have h2 := (List.isPrefixOf_iff_prefix.1 hp).length_le
    exact ⟨h1.1, h1.2.1, h1.2.2.1, h2⟩
  · exact nomatch h
theorem hNames : ∀ x ∈ unitNames, 0 ≤ x.2 ∧ x.2 < 1048576 ∧ 0 < x.1.length ∧ (32 : UInt8) ∉ x.1 := by decide
theorem numOf_lt : ∀ (l : List UInt8) (n c : Nat), digits l = true → n < 10 ^ c → numOf n l < 10 ^ (c + l.length) := by
  intro l
  induction l with
  | nil => intro n c _ h; exact h
  | cons d l ih =>
    intro n c hd h
    have hd' : (48 ≤ d.toNat ∧ d.toNat ≤ 57) ∧ digits l = true := by
      unfold digits at hd ⊢
      simpa using hd
    have := ih (n * 10 + (d.toNat - 48)) (c + 1) hd'.2 (by rw [Nat.pow_succ]; omega)
    rw [List.length_cons, show c + (l.length + 1) = c + 1 + l.length by omega]
    exact this
theorem take_digits (t : List UInt8) : digits (t.takeWhile isdig) = true := by
  exact take_all isdig t
theorem num_small (t : List UInt8) (h : (t.takeWhile isdig).length ≤ 18) : ((numOf 0 (t.takeWhile isdig) : Nat) : Int) < 1152921504606846976 := by
  have h1 := numOf_lt (t.takeWhile isdig) 0 0 (take_digits t) (by decide)
  have h2 : 10 ^ (0 + (t.takeWhile isdig).length) ≤ 10 ^ 18 := Nat.pow_le_pow_right (by decide) (by omega)
  omega
theorem part_range {t r : List UInt8} {v : Int} (h : part t = some (v, r)) : 0 ≤ v ∧ v ≤ 9223372036854775807 := by
  unfold part at h
  split at h
  · exact nomatch h
  · split at h
    · rename_i x hx
      injection h with h; injection h with h1 h2
      subst h1
      exact tv_range _ (Int.mul_nonneg (by omega) (fu_sec hNames hx).1)
    · split at h
      · injection h with h; injection h with h1 h2
        subst h1
        exact tv_range _ (by omega)
      · exact nomatch h

/-! ### blanks at the end -/
theorem prefix_blanks : ∀ (x b : List UInt8) (n : Nat), (32 : UInt8) ∉ x → x.isPrefixOf (b ++ List.replicate n 32) = x.isPrefixOf b := by
  intro x
  induction x with
  | nil => intro b n _; rfl
  | cons c x ih =>
    intro b n hx
    cases b with
    | nil =>
      have hc : ((c : UInt8) == 32) = false := by
        rw [beq_eq_false_iff_ne]; intro h; subst h; exact hx (List.mem_cons_self ..)
      cases n with
      | zero => rfl
      | succ n => rw [List.nil_append, List.replicate_succ]; simp [List.isPrefixOf, hc]
    | cons d b => rw [List.cons_append, List.isPrefixOf, List.isPrefixOf, ih b n (fun h => hx (List.mem_cons_of_mem _ h))]
theorem fu_blanks (b : List UInt8) (n : Nat) : ∀ u : List (List UInt8 × Int), (∀ x ∈ u, 0 ≤ x.2 ∧ x.2 < 1048576 ∧ 0 < x.1.length ∧ (32 : UInt8) ∉ x.1) → fu u (b ++ List.replicate n 32) = fu u b := by
  intro u
  unfold fu
  induction u with
  | nil => intro _; rfl
  | cons y u ih =>
    intro hu
    have ih := ih (fun x hx => hu x (List.mem_cons_of_mem _ hx))
    have e := prefix_blanks y.1 b n (hu y (List.mem_cons_self ..)).2.2.2
    rw [List.find?_cons, List.find?_cons, e]
    cases y.1.isPrefixOf b
    · exact ih
    · rfl
/-- the same, but for blanks at the end of the first -/
def E (a b : List UInt8) : Prop := ∃ n, a = b ++ List.replicate n 32 ∧ (b = [] → n = 0) ∧ b.getLast? ≠ some 32
theorem d32_rep (n : Nat) : d32 (List.replicate n 32) = [] := by
  unfold d32
  rw [drop_nil]
  intro c hc
  rw [List.eq_of_mem_replicate hc]; rfl
theorem last_suffix {a b : List UInt8} (h : a <:+ b) (ha : a ≠ []) : a.getLast? = b.getLast? := by
  obtain ⟨p, rfl⟩ := h
  rw [List.getLast?_append]
  cases e : a.getLast? with
  | none => exact absurd (List.getLast?_eq_none_iff.1 e) ha
  | some x => rfl
theorem E_d32 {b : List UInt8} (n : Nat) (hb : b.getLast? ≠ some 32) : E (d32 (b ++ List.replicate n 32)) (d32 b) := by
  by_cases hn : b = []
  · subst hn
    rw [List.nil_append, d32_rep]
    exact ⟨0, rfl, fun _ => rfl, by simp [d32]⟩
  · have hne : d32 b ≠ [] := by
      intro h
      unfold d32 at h
      rw [drop_nil] at h
      obtain ⟨c, hc⟩ : ∃ c, b.getLast? = some c := by
        cases e : b.getLast? with
        | none => exact absurd (List.getLast?_eq_none_iff.1 e) hn
        | some c => exact ⟨c, rfl⟩
      have := h c (List.mem_of_getLast? hc)
      have h32 : c = 32 := by simpa using this
      exact hb (by rw [hc, h32])
    refine ⟨n, ?_, fun h => absurd h hne, ?_⟩
    · unfold d32 at hne ⊢
      rw [List.dropWhile_append]
      have : (List.dropWhile (fun x => x == 32) b).isEmpty = false := by
        cases e : List.dropWhile (fun x => x == 32) b with
        | nil => exact absurd e hne
        | cons _ _ => rfl
      rw [this]; rfl
    · rw [last_suffix (d32_suffix b) hne]; exact hb
theorem dig_rep (n : Nat) : (List.replicate n (32 : UInt8)).takeWhile isdig = [] ∧ (List.replicate n (32 : UInt8)).dropWhile isdig = List.replicate n 32 := by
  cases n with
  | zero => exact ⟨rfl, rfl⟩
  | succ n => rw [List.replicate_succ]; exact ⟨List.takeWhile_cons_of_neg (by decide), List.dropWhile_cons_of_neg (by decide)⟩
theorem dig_app (b : List UInt8) (n : Nat) : (b ++ List.replicate n 32).takeWhile isdig = b.takeWhile isdig ∧ (b ++ List.replicate n 32).dropWhile isdig = b.dropWhile isdig ++ List.replicate n 32 := by
  induction b with
  | nil => exact dig_rep n
  | cons c b ih =>
    rw [List.cons_append]
    by_cases h : isdig c = true
    · rw [List.takeWhile_cons_of_pos h, List.takeWhile_cons_of_pos h, List.dropWhile_cons_of_pos h, List.dropWhile_cons_of_pos h, ih.1, ih.2]
      exact ⟨rfl, rfl⟩
    · rw [List.takeWhile_cons_of_neg h, List.takeWhile_cons_of_neg h, List.dropWhile_cons_of_neg h, List.dropWhile_cons_of_neg h]
      exact ⟨rfl, rfl⟩
theorem sub_last {a b : List UInt8} (h : a <:+ b) (hb : b.getLast? ≠ some 32) : a.getLast? ≠ some 32 := by
  by_cases ha : a = []
  · subst ha; simp
  · rw [last_suffix h ha]; exact hb
theorem part_E {a b : List UInt8} (h : E a b) : (part a = none ∧ part b = none) ∨ ∃ v r q, part a = some (v, r) ∧ part b = some (v, q) ∧ E r q := by
  obtain ⟨n, rfl, hn, hb⟩ := h
  obtain ⟨e1, e2⟩ := dig_app b n
  have hb2 : (b.dropWhile isdig).getLast? ≠ some 32 := sub_last (List.dropWhile_suffix _) hb
  obtain ⟨m, e3, hm, hb3⟩ := E_d32 n hb2
  unfold part
  rw [e1, e2, e3, fu_blanks _ m unitNames hNames]
  by_cases hc : (b.takeWhile isdig).length = 0 ∨ (b.takeWhile isdig).length > 18
  · rw [if_pos hc, if_pos hc]; exact .inl ⟨rfl, rfl⟩
  · rw [if_neg hc, if_neg hc]
    cases hf : fu unitNames (d32 (b.dropWhile isdig)) with
    | none =>
      simp only []
      by_cases hd : d32 (b.dropWhile isdig) = []
      · obtain rfl := hm hd
        rw [hd]
        exact .inr ⟨_, _, _, rfl, rfl, 0, rfl, fun _ => rfl, by simp⟩
      · rw [if_neg hd, if_neg (by simp [hd])]; exact .inl ⟨rfl, rfl⟩
    | some x =>
      simp only []
      refine .inr ⟨_, _, _, rfl, rfl, ?_⟩
      have hx := (fu_sec hNames hf).2.2.2
      rw [List.drop_append_of_le_length hx]
      exact E_d32 m (sub_last (List.drop_suffix _ _) hb3)
theorem sum_E : ∀ (n m : Nat) (a b : List UInt8) (acc : Int), a.length ≤ n → b.length ≤ m → E a b → sum (n + 1) a acc = sum (m + 1) b acc := by
  intro n
  induction n with
  | zero =>
    intro m a b acc ha hb h
    rcases part_E h with ⟨h1, h2⟩ | ⟨v, r, q, h1, h2, h3⟩
    · rw [sum, sum, h1, h2]
    · have := part_shorter h1; omega
  | succ n ih =>
    intro m a b acc ha hb h
    rcases part_E h with ⟨h1, h2⟩ | ⟨v, r, q, h1, h2, h3⟩
    · rw [sum, sum, h1, h2]
    · have s1 := part_shorter h1
      have s2 := part_shorter h2
      rw [sum, sum, h1, h2]
      cases q with
      | nil =>
        obtain ⟨k, e, hk, _⟩ := h3
        obtain rfl := hk rfl
        have e : r = [] := e
        subst e
        rfl
      | cons d q =>
        cases r with
        | nil => obtain ⟨k, e, _⟩ := h3; exact absurd e (by simp)
        | cons c r =>
          simp only []
          obtain ⟨m', rfl⟩ : ∃ m', m = m' + 1 := ⟨m - 1, by omega⟩
          exact ih m' _ _ _ (by omega) (by omega) h3
theorem split_blanks (l : List UInt8) : ∃ u n, l = u ++ List.replicate n 32 ∧ u.getLast? ≠ some 32 := by
  obtain ⟨k, hk⟩ : ∃ k, l.length = k := ⟨_, rfl⟩
  induction k generalizing l with
  | zero =>
    have : l = [] := List.length_eq_zero_iff.1 hk
    subst this
    exact ⟨[], 0, rfl, by simp⟩
  | succ k ih =>
    rcases List.eq_nil_or_concat l with rfl | ⟨v, c, rfl⟩
    · exact ⟨[], 0, rfl, by simp⟩
    · by_cases hc : c = 32
      · subst hc
        obtain ⟨u, n, e, h⟩ := ih v (by simpa using hk)
        refine ⟨u, n + 1, ?_, h⟩
        rw [List.concat_eq_append, e, List.replicate_succ', List.append_assoc]
      · exact ⟨v ++ [c], 0, by simp, by simpa using hc⟩
end Go.Proofs.YtfpfdeechhaheaaDoor.Reads
