/- The plain law of reading a span: positions, products, what a text is, what the program reads. -/
import Derived.Test.YtfpfdeechhaheaaDoorBackF0
import Derived.Laws.Bits64b
namespace Go.Proofs.YtfpfdeechhaheaaDoor.Reads
open Go.RowKit Go.Proofs.YtfpfdeechhaheaaDoorW.PrintWords Go.Proofs.YtfpfdeechhaheaaDoorW.PrintLast
set_option linter.unusedVariables false
set_option linter.unusedSectionVars false
set_option linter.unusedSimpArgs false
theorem u64_small (n : Int) (h0 : 0 ≤ n) (h1 : n < 18446744073709551616) : IntKind.u64.wrap n = n := by
  unfold IntKind.wrap
  simp [IntKind.bits, IntKind.signed]
  omega
theorem u64_mod (n : Int) : IntKind.u64.wrap n = n % 18446744073709551616 := by
  unfold IntKind.wrap
  simp [IntKind.bits, IntKind.signed]
theorem and32 (n : Int) (h0 : 0 ≤ n) (h1 : n < 18446744073709551616) : Go.bits .and .u64 n 4294967295 = n % 4294967296 := by
  obtain ⟨m, rfl⟩ : ∃ m : Nat, n = m := ⟨n.toNat, by omega⟩
  have h := bits_and_u64_nat m 4294967295 (by omega) (by decide)
  have e : m &&& 4294967295 = m % 4294967296 := Nat.and_two_pow_sub_one_eq_mod m 32
  rw [e] at h
  rw [show ((4294967295 : Nat) : Int) = 4294967295 from rfl] at h
  rw [h]
  omega
theorem mul64 (a b : Int) (h0 : 0 ≤ a) (h1 : a < 1152921504606846976) (h2 : 0 ≤ b) (h3 : b < 1048576) : bits_Mul64.f a b = some (a * b / 18446744073709551616, a * b % 18446744073709551616) := by
  unfold bits_Mul64.f
  rw [and32 a h0 (by omega), and32 b h2 (by omega)]
  have eb1 : b / 4294967296 = 0 := by omega
  have eb0 : b % 4294967296 = b := by omega
  rw [eb1, eb0, Int.mul_zero, Int.mul_zero]
  obtain ⟨x, hx⟩ : ∃ x, a / 4294967296 = x := ⟨_, rfl⟩
  obtain ⟨y, hy⟩ : ∃ y, a % 4294967296 = y := ⟨_, rfl⟩
  have ha : a = x * 4294967296 + y := by omega
  have hx0 : 0 ≤ x ∧ x < 268435456 := by omega
  have hy0 : 0 ≤ y ∧ y < 4294967296 := by omega
  rw [hx, hy]
  have hab : a * b = (x * b) * 4294967296 + y * b := by rw [ha, Int.add_mul, Int.mul_assoc, Int.mul_comm 4294967296, ← Int.mul_assoc]
  have p0 : 0 ≤ x * b := Int.mul_nonneg hx0.1 h2
  have q0 : 0 ≤ y * b := Int.mul_nonneg hy0.1 h2
  have p1 : x * b ≤ 268435456 * 1048576 := Int.mul_le_mul (by omega) (by omega) h2 (by decide)
  have q1 : y * b ≤ 4294967296 * 1048576 := Int.mul_le_mul (by omega) (by omega) h2 (by decide)
  rw [hab]
  obtain ⟨p, hp⟩ : ∃ p, x * b = p := ⟨_, rfl⟩
  obtain ⟨q, hq⟩ : ∃ q, y * b = q := ⟨_, rfl⟩
  rw [hp] at p0 p1
  rw [hq] at q0 q1
  rw [hp, hq]
  rw [u64_small p p0 (by omega), u64_small q q0 (by omega), u64_small (p + q / 4294967296) (by omega) (by omega), u64_small 0 (by decide) (by decide), and32 (p + q / 4294967296) (by omega) (by omega), u64_mod]
  congr 1
  refine Prod.ext ?_ ?_
  · simp only [u64_mod]; omega
  · simp only [u64_mod]
/-- within bounds -/
def tv (v : Int) : Int := if v > 9223372036854775807 then 9223372036854775807 else v
theorem times_f (a b : Int) (h0 : 0 ≤ a) (h1 : a < 1152921504606846976) (h2 : 0 ≤ b) (h3 : b < 1048576) : span_times.f a b = some (tv (a * b)) := by
  unfold span_times.f
  rw [mul64 a b h0 h1 h2 h3, Option.bind_some]
  have hp : 0 ≤ a * b := Int.mul_nonneg h0 h2
  obtain ⟨v, hv⟩ : ∃ v, a * b = v := ⟨_, rfl⟩
  rw [hv] at hp ⊢
  unfold tv
  simp only
  by_cases c1 : v / 18446744073709551616 > 0
  · rw [if_pos c1, if_pos (by omega)]
  · rw [if_neg c1]
    by_cases c2 : v % 18446744073709551616 > 9223372036854775807
    · rw [if_pos c2, if_pos (by omega)]
    · rw [if_neg c2, if_neg (by omega)]
      congr 1
      unfold wrap64
      omega
theorem tv_range (v : Int) (h : 0 ≤ v) : 0 ≤ tv v ∧ tv v ≤ 9223372036854775807 := by
  unfold tv
  split <;> omega
theorem span_add (a b : Int) (ha : 0 ≤ a) (ha2 : a ≤ 9223372036854775807) (hb : 0 ≤ b) (hb2 : b ≤ 9223372036854775807) (k : Nat) : span_Add.f (k + 2) a b = some (tv (a + b)) := by
  have key : ∀ x, span_Add.j1 (k + 1) a b (wrap64 (a + b)) x = if x = true then some 9223372036854775807 else some (wrap64 (a + b)) := by
    intro x
    rw [span_Add.j1]
    by_cases hx : x = true
    · rw [if_pos hx, if_pos hx]
    · rw [if_neg hx, if_neg hx, if_neg (by omega)]
  have hj : ∀ y, (y = true ↔ (a = 9223372036854775807 ∨ b = 9223372036854775807)) → span_Add.j0 (k + 2) a b (wrap64 (a + b)) y = some (tv (a + b)) := by
    intro y hy
    rw [span_Add.j0]
    by_cases h1 : y = true
    · rw [if_pos h1]
      have := hy.1 h1
      unfold tv
      by_cases h2 : a + b > 9223372036854775807
      · rw [if_pos h2]
      · rw [if_neg h2]; congr 1; omega
    · rw [if_neg h1, key, key]
      have hn : ¬ (a = 9223372036854775807 ∨ b = 9223372036854775807) := fun h => h1 (hy.2 h)
      unfold tv wrap64
      by_cases h2 : a > 0
      · rw [if_pos h2]
        by_cases h3 : b > 0
        · rw [if_pos h3]
          by_cases h4 : a + b > 9223372036854775807
          · rw [if_pos (by rw [decide_eq_true_eq]; omega), if_pos h4]
          · rw [if_neg (by rw [decide_eq_true_eq]; omega), if_neg h4]; congr 1; omega
        · rw [if_neg h3, if_neg (by decide), if_neg (by omega)]; congr 1; omega
      · rw [if_neg h2, if_neg (by decide), if_neg (by omega)]; congr 1; omega
  unfold span_Add.f
  by_cases h1 : a = 9223372036854775807
  · rw [if_pos h1]; exact hj true (by simp [h1])
  · rw [if_neg h1]; exact hj _ (by simp [h1])
def ba (l : List UInt8) : ByteArray := ⟨l.toArray⟩
def nums (l : List UInt8) : List Int := l.map fun b => (b.toNat : Int)
theorem ba_size (l : List UInt8) : (ba l).size = l.length := by simp [ba, ByteArray.size]
theorem ba_list (l : List UInt8) : (ba l).data.toList = l := by simp [ba]
theorem ba_of (b : ByteArray) : ba b.data.toList = b := by cases b; simp [ba]
theorem nums_app (l : List UInt8) (c : UInt8) : nums l ++ [(c.toNat : Int)] = nums (l ++ [c]) := by simp [nums]
theorem nums_len (l : List UInt8) : (nums l).length = l.length := by simp [nums]
theorem wrap_ok {n : Int} (h0 : 0 ≤ n) (h1 : n < 9223372036854775807) : wrap64 (n + 1) = n + 1 := by unfold wrap64; omega
theorem bt_list (b : ByteArray) (i : Nat) (c : UInt8) (h : b.data.toList[i]? = some c) : bt b (i : Int) = (c.toNat : Int) := by
  obtain ⟨h1, h2⟩ := List.getElem?_eq_some_iff.1 h
  have hl : i < b.size := by rw [Array.length_toList] at h1; exact h1
  unfold bt
  rw [dif_pos (by simpa using hl)]
  have : b[(i : Int).toNat]'(by simpa using hl) = c := by
    rw [← h2]; simp [ByteArray.getElem_eq_getElem_data]
  rw [this]
theorem toNat_eq {c : UInt8} {n : Nat} (hn : n < 256) : ((c.toNat : Int) = (n : Int)) ↔ c = UInt8.ofNat n := by
  constructor
  · intro h
    have h : c.toNat = n := by omega
    rw [← h]; simp
  · rintro rfl
    simp
    omega

def pos (L t : List UInt8) : Int := (L.length : Int) - (t.length : Int)
section
variable {a0 : ByteArray} {L : List UInt8} (hL : a0.data.toList = L) (hn : L.length ≤ 5000)
include hL
theorem sz : (a0.size : Int) = (L.length : Int) := by rw [← hL, Array.length_toList]; rfl
theorem at_get {t : List UInt8} (hs : t <:+ L) (i : Nat) : L[L.length - t.length + i]? = t[i]? := by
  obtain ⟨p, hp⟩ := hs
  subst hp
  rw [List.length_append, Nat.add_sub_cancel, List.getElem?_append_right (by omega), Nat.add_sub_cancel_left]
theorem pos_nat {t : List UInt8} (hs : t <:+ L) : pos L t = ((L.length - t.length : Nat) : Int) := by
  have := hs.length_le
  unfold pos; omega
theorem bt_pos {c : UInt8} {t : List UInt8} (hs : (c :: t) <:+ L) : bt a0 (pos L (c :: t)) = (c.toNat : Int) := by
  rw [pos_nat hL hs]
  refine bt_list a0 _ c ?_
  rw [hL]
  have := at_get hL hs 0
  simpa using this
include hn
theorem pos_next {c : UInt8} {t : List UInt8} (hs : (c :: t) <:+ L) : wrap64 (pos L (c :: t) + 1) = pos L t := by
  have h1 := hs.length_le
  rw [wrap_ok (by unfold pos; omega) (by unfold pos; omega)]
  unfold pos
  simp
  omega
omit hn in
theorem pos_ge {t : List UInt8} (hs : t <:+ L) : 0 ≤ pos L t := by
  have h1 := hs.length_le
  unfold pos; omega
omit hn in
theorem pos_lt {c : UInt8} {t : List UInt8} (hs : (c :: t) <:+ L) : pos L (c :: t) < (a0.size : Int) := by
  rw [sz hL]
  unfold pos; simp; omega
omit hn in
theorem pos_nil : pos L [] = (a0.size : Int) := by
  rw [sz hL]; unfold pos; simp
omit hn in
theorem cut_pos {w t : List UInt8} (hs : (w ++ t) <:+ L) : a0.extract (pos L (w ++ t)).toNat (pos L t).toNat = ba w := by
  have hs2 : t <:+ L := (List.suffix_append w t).trans hs
  rw [pos_nat hL hs, pos_nat hL hs2]
  obtain ⟨p, hp⟩ := hs
  have : a0 = ba (p ++ (w ++ t)) := by rw [hp, ← hL, ba_of]
  rw [this, ← hp]
  unfold ba
  apply ByteArray.ext
  apply Array.ext'
  simp [ByteArray.data_extract]
  rw [show p.length + (w.length + t.length) - t.length - p.length = w.length by omega]
  simp

omit hL hn in
theorem uu (c d : UInt8) : ((c.toNat : Int) = (d.toNat : Int)) = (c = d) := propext ⟨fun h => UInt8.toNat_inj.1 (by omega), fun h => by rw [h]⟩
omit hn in
theorem pos_le {w t : List UInt8} (hs : (w ++ t) <:+ L) : pos L (w ++ t) ≤ pos L t ∧ pos L t ≤ (a0.size : Int) := by
  have h1 := hs.length_le
  rw [sz hL]; unfold pos; simp at *; omega
omit hn in
theorem tail_pos {t : List UInt8} (hs : t <:+ L) : a0.extract (pos L t).toNat a0.size = ba t := by
  have h := cut_pos hL (w := t) (t := []) (by simpa using hs)
  rw [List.append_nil, pos_nil hL] at h
  simpa using h
end
theorem leO_le {α : Type} {f : Nat → Option α} (h : ∀ k, LeO (f k) (f (k + 1))) {k : Nat} : ∀ {n : Nat}, k ≤ n → LeO (f k) (f n) := by
  intro n hkn
  induction n with
  | zero => obtain rfl : k = 0 := by omega
            exact LeO.refl _
  | succ n ih =>
    by_cases e : k = n + 1
    · subst e; exact LeO.refl _
    · exact (ih (by omega)).trans (h n)
theorem cut_ba (w r : List UInt8) : (ba (w ++ r)).extract 0 w.length = ba w ∧ (ba (w ++ r)).extract w.length (ba (w ++ r)).size = ba r := by
  constructor
  · unfold ba; apply ByteArray.ext; apply Array.ext'; simp [ByteArray.data_extract]
  · rw [ba_size]; unfold ba; apply ByteArray.ext; apply Array.ext'; simp [ByteArray.data_extract]
def isdig (c : UInt8) : Bool := decide (48 ≤ c.toNat ∧ c.toNat ≤ 57)
section
variable {a0 : ByteArray} {L : List UInt8} (hL : a0.data.toList = L) (hn : L.length ≤ 5000)
include hL hn
theorem part_l0 (r : Int × ByteArray × Bool) : ∀ t, t <:+ L → (∃ k, span_part.j1 k a0 (pos L (t.dropWhile isdig)) = some r) → ∃ k, span_part.l0 k a0 (pos L t) = some r := by
  intro t
  induction t with
  | nil =>
    rintro hs ⟨k, h⟩
    refine ⟨k + 1, ?_⟩
    rw [span_part.l0, if_neg (by rw [pos_nil hL]; omega)]
    exact h
  | cons c t ih =>
    intro hs h
    have hs2 : t <:+ L := (List.suffix_cons c t).trans hs
    by_cases hb : isdig c = true
    · rw [List.dropWhile_cons_of_pos hb] at h
      obtain ⟨k, h⟩ := ih hs2 h
      have hd : 48 ≤ c.toNat ∧ c.toNat ≤ 57 := of_decide_eq_true hb
      refine ⟨k + 1, ?_⟩
      rw [span_part.l0, if_pos (pos_lt hL hs), if_pos (pos_ge hL hs), bt_pos hL hs, if_pos (by omega), if_pos (by omega), pos_next hL hn hs]
      exact h
    · rw [List.dropWhile_cons_of_neg hb] at h
      obtain ⟨k, h⟩ := h
      have hd : ¬ (48 ≤ c.toNat ∧ c.toNat ≤ 57) := fun x => hb (decide_eq_true x)
      refine ⟨k + 1, ?_⟩
      rw [span_part.l0, if_pos (pos_lt hL hs), if_pos (pos_ge hL hs), bt_pos hL hs]
      by_cases h48 : (c.toNat : Int) ≥ 48
      · rw [if_pos h48, if_neg (by omega)]; exact h
      · rw [if_neg h48]; exact h
end
/-- from some fuel on -/
def EvS {α : Type} (f : Nat → Option α) (r : α) : Prop := ∃ K, ∀ n, K ≤ n → f n = some r
theorem EvS.of {α : Type} {f : Nat → Option α} (hm : ∀ k, LeO (f k) (f (k + 1))) {r : α} (h : ∃ k, f k = some r) : EvS f r := by
  obtain ⟨k, h⟩ := h
  exact ⟨k, fun n hn => leO_le hm hn _ h⟩
theorem EvS.pure {α : Type} {f : Nat → Option α} {r : α} (h : ∀ n, f (n + 1) = some r) : EvS f r :=
  ⟨1, fun n hn => by obtain ⟨m, rfl⟩ : ∃ m, n = m + 1 := ⟨n - 1, by omega⟩; exact h m⟩
theorem EvS.step {α : Type} {f g : Nat → Option α} {r : α} (h : EvS g r) (e : ∀ n, f (n + 1) = g n) : EvS f r := by
  obtain ⟨K, h⟩ := h
  exact ⟨K + 1, fun n hn => by obtain ⟨m, rfl⟩ : ∃ m, n = m + 1 := ⟨n - 1, by omega⟩; rw [e, h m (by omega)]⟩
theorem EvS.bind {α β : Type} {f : Nat → Option α} {g : Nat → α → Option β} {r : α} {q : β} (h : EvS f r) (h2 : EvS (fun k => g k r) q) : EvS (fun k => (f k).bind (g k)) q := by
  obtain ⟨K, h⟩ := h
  obtain ⟨K2, h2⟩ := h2
  exact ⟨K + K2, fun n hn => by simp only []; rw [h n (by omega), Option.bind_some]; exact h2 n (by omega)⟩
theorem EvS.some {α : Type} (r : α) : EvS (fun _ => some r) r := ⟨0, fun _ _ => rfl⟩
theorem EvS.eqn {α : Type} {f g : Nat → Option α} {r : α} (h : EvS g r) (e : ∀ n, f n = g n) : EvS f r := by
  have : f = g := funext e
  rw [this]; exact h
theorem EvS.atLeast {α : Type} {f : Nat → Option α} {r : α} (m : Nat) (h : ∀ n, f (n + m) = Option.some r) : EvS f r :=
  ⟨m, fun n hn => by obtain ⟨j, rfl⟩ : ∃ j, n = j + m := ⟨n - m, by omega⟩; exact h j⟩

/-! ### what a text is -/
theorem take_all (p : UInt8 → Bool) : ∀ l : List UInt8, (l.takeWhile p).all p = true := by
  intro l
  induction l with
  | nil => rfl
  | cons c l ih =>
    by_cases h : p c = true
    · rw [List.takeWhile_cons_of_pos h, List.all_cons, h, ih]; rfl
    · rw [List.takeWhile_cons_of_neg h]; rfl
theorem drop_nil (p : UInt8 → Bool) : ∀ l : List UInt8, l.dropWhile p = [] ↔ ∀ x ∈ l, p x = true := by
  intro l
  induction l with
  | nil => simp
  | cons c l ih =>
    by_cases h : p c = true
    · rw [List.dropWhile_cons_of_pos h, ih]; simp [h]
    · rw [List.dropWhile_cons_of_neg h]
      constructor
      · intro x; exact nomatch x
      · intro x; exact absurd (x c (List.mem_cons_self ..)) h
def d32 (l : List UInt8) : List UInt8 := l.dropWhile (· == 32)
def units1 : List (List UInt8 × Int) := [([115, 101, 99], 1), ([115], 1), ([109, 105, 110], 60), ([109], 60), ([104, 114], 3600), ([104], 3600), ([100], 86400), ([119], 604800)]
def fu (u : List (List UInt8 × Int)) (r : List UInt8) : Option (Int × Nat) := match u.find? (fun x => x.1.isPrefixOf r) with | some x => some (x.2, x.1.length) | none => none
def part (t : List UInt8) : Option (Int × List UInt8) :=
  if (t.takeWhile isdig).length = 0 ∨ (t.takeWhile isdig).length > 18 then none else
  match fu unitNames (d32 (t.dropWhile isdig)) with
  | some x => some (tv ((numOf 0 (t.takeWhile isdig) : Int) * x.1), d32 ((d32 (t.dropWhile isdig)).drop x.2))
  | none => if d32 (t.dropWhile isdig) = [] then some (tv ((numOf 0 (t.takeWhile isdig) : Int) * 1), []) else none
def sum : Nat → List UInt8 → Int → Int × Int
  | 0, _, _ => (0, 10)
  | n + 1, t, acc =>
    match part t with
    | none => (0, 10)
    | some (v, []) => (tv (acc + v), 0)
    | some (v, c :: r) => sum n (c :: r) (tv (acc + v))
theorem d32_suffix (l : List UInt8) : d32 l <:+ l := List.dropWhile_suffix _
theorem part_shorter {t r : List UInt8} {v : Int} (h : part t = some (v, r)) : r.length < t.length := by
  have e : t.takeWhile isdig ++ t.dropWhile isdig = t := List.takeWhile_append_dropWhile
  have el := congrArg List.length e
  rw [List.length_append] at el
  have hd := (d32_suffix (t.dropWhile isdig)).length_le
  unfold part at h
  split at h
  · exact nomatch h
  · split at h
    · rename_i x hx
      injection h with h; injection h with h1 h2
      have h3 := (d32_suffix ((d32 (t.dropWhile isdig)).drop x.2)).length_le
      rw [List.length_drop, h2] at h3
      omega
    · split at h
      · injection h with h; injection h with h1 h2
        subst h2
        simp; omega
      · exact nomatch h
theorem fu_same (r : List UInt8) : fu units1 r = fu unitNames r := by
  cases r with
  | nil => rfl
  | cons c r =>
    unfold fu units1 unitNames
    by_cases h1 : c = 115
    · subst h1
      cases h : ([101, 99] : List UInt8).isPrefixOf r <;> simp [List.find?, List.isPrefixOf, h]
    · by_cases h2 : c = 109
      · subst h2
        cases h : ([105, 110] : List UInt8).isPrefixOf r <;> simp [List.find?, List.isPrefixOf, h]
      · by_cases h3 : c = 104
        · subst h3
          cases h : ([114] : List UInt8).isPrefixOf r <;> simp [List.find?, List.isPrefixOf, h]
        · have e1 : ((115 : UInt8) == c) = false := by simpa using fun h => h1 h.symm
          have e2 : ((109 : UInt8) == c) = false := by simpa using fun h => h2 h.symm
          have e3 : ((104 : UInt8) == c) = false := by simpa using fun h => h3 h.symm
          simp [List.find?, List.isPrefixOf, e1, e2, e3]
theorem fu_sec {u : List (List UInt8 × Int)} (hu : ∀ x ∈ u, 0 ≤ x.2 ∧ x.2 < 1048576 ∧ 0 < x.1.length ∧ (32 : UInt8) ∉ x.1) {r : List UInt8} {x : Int × Nat} (h : fu u r = some x) : 0 ≤ x.1 ∧ x.1 < 1048576 ∧ 0 < x.2 ∧ x.2 ≤ r.length := by
  unfold fu at h
  split at h
  · rename_i y hy
    injection h with h
    subst h
    have hp := List.find?_some hy
    have hm := List.mem_of_find?_eq_some hy
    have h1 := hu y hm
    have h2 := (List.isPrefixOf_iff_prefix.1 hp).length_le
    exact ⟨h1.1, h1.2.1, h1.2.2.1, h2⟩
  · exact nomatch h
theorem hNames : ∀ x ∈ unitNames, 0 ≤ x.2 ∧ x.2 < 1048576 ∧ 0 < x.1.length ∧ (32 : UInt8) ∉ x.1 := by decide
theorem numOf_lt : ∀ (l : List UInt8) (n c : Nat), digits l = true → n < 10 ^ c → numOf n l < 10 ^ (c + l.length) := by
  intro l
  induction l with
  | nil => intro n c _ h; exact h
  | cons d l ih =>
    intro n c hd h
    have hd' : (48 ≤ d.toNat ∧ d.toNat ≤ 57) ∧ digits l = true := by
      unfold digits at hd ⊢
      simpa using hd
    have := ih (n * 10 + (d.toNat - 48)) (c + 1) hd'.2 (by rw [Nat.pow_succ]; omega)
    rw [List.length_cons, show c + (l.length + 1) = c + 1 + l.length by omega]
    exact this
theorem take_digits (t : List UInt8) : digits (t.takeWhile isdig) = true := by
  exact take_all isdig t
theorem num_small (t : List UInt8) (h : (t.takeWhile isdig).length ≤ 18) : ((numOf 0 (t.takeWhile isdig) : Nat) : Int) < 1152921504606846976 := by
  have h1 := numOf_lt (t.takeWhile isdig) 0 0 (take_digits t) (by decide)
  have h2 : 10 ^ (0 + (t.takeWhile isdig).length) ≤ 10 ^ 18 := Nat.pow_le_pow_right (by decide) (by omega)
  omega
theorem part_range {t r : List UInt8} {v : Int} (h : part t = some (v, r)) : 0 ≤ v ∧ v ≤ 9223372036854775807 := by
  unfold part at h
  split at h
  · exact nomatch h
  · split at h
    · rename_i x hx
      injection h with h; injection h with h1 h2
      subst h1
      exact tv_range _ (Int.mul_nonneg (by omega) (fu_sec hNames hx).1)
    · split at h
      · injection h with h; injection h with h1 h2
        subst h1
        exact tv_range _ (by omega)
      · exact nomatch h

/-! ### blanks at the end -/
theorem prefix_blanks : ∀ (x b : List UInt8) (n : Nat), (32 : UInt8) ∉ x → x.isPrefixOf (b ++ List.replicate n 32) = x.isPrefixOf b := by
  intro x
  induction x with
  | nil => intro b n _; rfl
  | cons c x ih =>
    intro b n hx
    cases b with
    | nil =>
      have hc : ((c : UInt8) == 32) = false := by
        rw [beq_eq_false_iff_ne]; intro h; subst h; exact hx (List.mem_cons_self ..)
      cases n with
      | zero => rfl
      | succ n => rw [List.nil_append, List.replicate_succ]; simp [List.isPrefixOf, hc]
    | cons d b => rw [List.cons_append, List.isPrefixOf, List.isPrefixOf, ih b n (fun h => hx (List.mem_cons_of_mem _ h))]
theorem fu_blanks (b : List UInt8) (n : Nat) : ∀ u : List (List UInt8 × Int), (∀ x ∈ u, 0 ≤ x.2 ∧ x.2 < 1048576 ∧ 0 < x.1.length ∧ (32 : UInt8) ∉ x.1) → fu u (b ++ List.replicate n 32) = fu u b := by
  intro u
  unfold fu
  induction u with
  | nil => intro _; rfl
  | cons y u ih =>
    intro hu
    have ih := ih (fun x hx => hu x (List.mem_cons_of_mem _ hx))
    have e := prefix_blanks y.1 b n (hu y (List.mem_cons_self ..)).2.2.2
    rw [List.find?_cons, List.find?_cons, e]
    cases y.1.isPrefixOf b
    · exact ih
    · rfl
/-- the same, but for blanks at the end of the first -/
def E (a b : List UInt8) : Prop := ∃ n, a = b ++ List.replicate n 32 ∧ (b = [] → n = 0) ∧ b.getLast? ≠ some 32
theorem d32_rep (n : Nat) : d32 (List.replicate n 32) = [] := by
  unfold d32
  rw [drop_nil]
  intro c hc
  rw [List.eq_of_mem_replicate hc]; rfl
theorem last_suffix {a b : List UInt8} (h : a <:+ b) (ha : a ≠ []) : a.getLast? = b.getLast? := by
  obtain ⟨p, rfl⟩ := h
  rw [List.getLast?_append]
  cases e : a.getLast? with
  | none => exact absurd (List.getLast?_eq_none_iff.1 e) ha
  | some x => rfl
theorem E_d32 {b : List UInt8} (n : Nat) (hb : b.getLast? ≠ some 32) : E (d32 (b ++ List.replicate n 32)) (d32 b) := by
  by_cases hn : b = []
  · subst hn
    rw [List.nil_append, d32_rep]
    exact ⟨0, rfl, fun _ => rfl, by simp [d32]⟩
  · have hne : d32 b ≠ [] := by
      intro h
      unfold d32 at h
      rw [drop_nil] at h
      obtain ⟨c, hc⟩ : ∃ c, b.getLast? = some c := by
        cases e : b.getLast? with
        | none => exact absurd (List.getLast?_eq_none_iff.1 e) hn
        | some c => exact ⟨c, rfl⟩
      have := h c (List.mem_of_getLast? hc)
      have h32 : c = 32 := by simpa using this
      exact hb (by rw [hc, h32])
    refine ⟨n, ?_, fun h => absurd h hne, ?_⟩
    · unfold d32 at hne ⊢
      rw [List.dropWhile_append]
      have : (List.dropWhile (fun x => x == 32) b).isEmpty = false := by
        cases e : List.dropWhile (fun x => x == 32) b with
        | nil => exact absurd e hne
        | cons _ _ => rfl
      rw [this]; rfl
    · rw [last_suffix (d32_suffix b) hne]; exact hb
theorem dig_rep (n : Nat) : (List.replicate n (32 : UInt8)).takeWhile isdig = [] ∧ (List.replicate n (32 : UInt8)).dropWhile isdig = List.replicate n 32 := by
  cases n with
  | zero => exact ⟨rfl, rfl⟩
  | succ n => rw [List.replicate_succ]; exact ⟨List.takeWhile_cons_of_neg (by decide), List.dropWhile_cons_of_neg (by decide)⟩
theorem dig_app (b : List UInt8) (n : Nat) : (b ++ List.replicate n 32).takeWhile isdig = b.takeWhile isdig ∧ (b ++ List.replicate n 32).dropWhile isdig = b.dropWhile isdig ++ List.replicate n 32 := by
  induction b with
  | nil => exact dig_rep n
  | cons c b ih =>
    rw [List.cons_append]
    by_cases h : isdig c = true
    · rw [List.takeWhile_cons_of_pos h, List.takeWhile_cons_of_pos h, List.dropWhile_cons_of_pos h, List.dropWhile_cons_of_pos h, ih.1, ih.2]
      exact ⟨rfl, rfl⟩
    · rw [List.takeWhile_cons_of_neg h, List.takeWhile_cons_of_neg h, List.dropWhile_cons_of_neg h, List.dropWhile_cons_of_neg h]
      exact ⟨rfl, rfl⟩
theorem sub_last {a b : List UInt8} (h : a <:+ b) (hb : b.getLast? ≠ some 32) : a.getLast? ≠ some 32 := by
  by_cases ha : a = []
  · subst ha; simp
  · rw [last_suffix h ha]; exact hb
theorem part_E {a b : List UInt8} (h : E a b) : (part a = none ∧ part b = none) ∨ ∃ v r q, part a = some (v, r) ∧ part b = some (v, q) ∧ E r q := by
  obtain ⟨n, rfl, hn, hb⟩ := h
  obtain ⟨e1, e2⟩ := dig_app b n
  have hb2 : (b.dropWhile isdig).getLast? ≠ some 32 := sub_last (List.dropWhile_suffix _) hb
  obtain ⟨m, e3, hm, hb3⟩ := E_d32 n hb2
  unfold part
  rw [e1, e2, e3, fu_blanks _ m unitNames hNames]
  by_cases hc : (b.takeWhile isdig).length = 0 ∨ (b.takeWhile isdig).length > 18
  · rw [if_pos hc, if_pos hc]; exact .inl ⟨rfl, rfl⟩
  · rw [if_neg hc, if_neg hc]
    cases hf : fu unitNames (d32 (b.dropWhile isdig)) with
    | none =>
      simp only []
      by_cases hd : d32 (b.dropWhile isdig) = []
      · obtain rfl := hm hd
        rw [hd]
        exact .inr ⟨_, _, _, rfl, rfl, 0, rfl, fun _ => rfl, by simp⟩
      · rw [if_neg hd, if_neg (by simp [hd])]; exact .inl ⟨rfl, rfl⟩
    | some x =>
      simp only []
      refine .inr ⟨_, _, _, rfl, rfl, ?_⟩
      have hx := (fu_sec hNames hf).2.2.2
      rw [List.drop_append_of_le_length hx]
      exact E_d32 m (sub_last (List.drop_suffix _ _) hb3)
theorem sum_E : ∀ (n m : Nat) (a b : List UInt8) (acc : Int), a.length ≤ n → b.length ≤ m → E a b → sum (n + 1) a acc = sum (m + 1) b acc := by
  intro n
  induction n with
  | zero =>
    intro m a b acc ha hb h
    rcases part_E h with ⟨h1, h2⟩ | ⟨v, r, q, h1, h2, h3⟩
    · rw [sum, sum, h1, h2]
    · have := part_shorter h1; omega
  | succ n ih =>
    intro m a b acc ha hb h
    rcases part_E h with ⟨h1, h2⟩ | ⟨v, r, q, h1, h2, h3⟩
    · rw [sum, sum, h1, h2]
    · have s1 := part_shorter h1
      have s2 := part_shorter h2
      rw [sum, sum, h1, h2]
      cases q with
      | nil =>
        obtain ⟨k, e, hk, _⟩ := h3
        obtain rfl := hk rfl
        have e : r = [] := e
        subst e
        rfl
      | cons d q =>
        cases r with
        | nil => obtain ⟨k, e, _⟩ := h3; exact absurd e (by simp)
        | cons c r =>
          simp only []
          obtain ⟨m', rfl⟩ : ∃ m', m = m' + 1 := ⟨m - 1, by omega⟩
          exact ih m' _ _ _ (by omega) (by omega) h3
theorem split_blanks (l : List UInt8) : ∃ u n, l = u ++ List.replicate n 32 ∧ u.getLast? ≠ some 32 := by
  obtain ⟨k, hk⟩ : ∃ k, l.length = k := ⟨_, rfl⟩
  induction k generalizing l with
  | zero =>
    have : l = [] := List.length_eq_zero_iff.1 hk
    subst this
    exact ⟨[], 0, rfl, by simp⟩
  | succ k ih =>
    rcases List.eq_nil_or_concat l with rfl | ⟨v, c, rfl⟩
    · exact ⟨[], 0, rfl, by simp⟩
    · by_cases hc : c = 32
      · subst hc
        obtain ⟨u, n, e, h⟩ := ih v (by simpa using hk)
        refine ⟨u, n + 1, ?_, h⟩
        rw [List.concat_eq_append, e, List.replicate_succ', List.append_assoc]
      · exact ⟨v ++ [c], 0, by simp, by simpa using hc⟩
theorem hasp (r p : List UInt8) : stringslite_HasPrefix.f (ba r) (ba p) = some (p.isPrefixOf r) := by
  unfold stringslite_HasPrefix.f
  have hp := pfx p (ba r)
  rw [ba_list, ba_size] at hp
  rw [ba_size, ba_size]
  have e : (ba p).toList = p := by rw [Lib.toList_data, ba_list]
  by_cases h : p.length ≤ r.length
  · rw [if_pos (by omega), if_pos (by omega), if_pos (by omega), e, Int.toNat_natCast]
    congr 1
    rw [Bool.eq_iff_iff, hp]
    exact ⟨fun x => ⟨h, x⟩, fun x => x.2⟩
  · rw [if_neg (by omega)]
    congr 1
    symm
    rw [Bool.eq_false_iff]
    intro x
    exact h (hp.1 x).1
theorem cutp (r p : List UInt8) : strings_CutPrefix.f (ba r) (ba p) = some (if p.isPrefixOf r = true then (ba (r.drop p.length), true) else (ba r, false)) := by
  unfold strings_CutPrefix.f stringslite_CutPrefix.f
  rw [hasp, Option.bind_some]
  by_cases h : p.isPrefixOf r = true
  · obtain ⟨s, rfl⟩ := List.isPrefixOf_iff_prefix.1 h
    have := (cut_ba p s).2
    have hz : ((ba p).size : Int) = (p.length : Int) := by rw [ba_size]
    have hz2 : ((ba (p ++ s)).size : Int) = (p.length : Int) + (s.length : Int) := by rw [ba_size, List.length_append]; omega
    rw [if_pos h, if_pos h, hz, hz2, if_pos (by omega), if_pos (by omega), Option.bind_some, Int.toNat_natCast, this, List.drop_left]
  · rw [if_neg h, if_neg h]; rfl
theorem trim (l : List UInt8) : strings_TrimLeft.f (ba l) (⟨#[32]⟩ : ByteArray) = some (ba (d32 l)) := by
  unfold strings_TrimLeft.f
  rw [if_pos rfl, ba_list]
  rfl
def U : List S57 := [(⟨(⟨#[115, 101, 99]⟩ : ByteArray), 1⟩ : S57), (⟨(⟨#[115]⟩ : ByteArray), 1⟩ : S57), (⟨(⟨#[109, 105, 110]⟩ : ByteArray), 60⟩ : S57), (⟨(⟨#[109]⟩ : ByteArray), 60⟩ : S57), (⟨(⟨#[104, 114]⟩ : ByteArray), 3600⟩ : S57), (⟨(⟨#[104]⟩ : ByteArray), 3600⟩ : S57), (⟨(⟨#[100]⟩ : ByteArray), 86400⟩ : S57), (⟨(⟨#[119]⟩ : ByteArray), 604800⟩ : S57)]
theorem units_f : span_units.f = some U := rfl
theorem eight {P : Nat → Prop} (h0 : P 0) (h1 : P 1) (h2 : P 2) (h3 : P 3) (h4 : P 4) (h5 : P 5) (h6 : P 6) (h7 : P 7) (i : Nat) (hi : i < 8) : P i := by
  rcases (by omega : i = 0 ∨ i = 1 ∨ i = 2 ∨ i = 3 ∨ i = 4 ∨ i = 5 ∨ i = 6 ∨ i = 7) with rfl | rfl | rfl | rfl | rfl | rfl | rfl | rfl <;> assumption
def u1 (i : Nat) : List UInt8 × Int := units1.getD i ([], 0)
theorem drop1 (i : Nat) (hi : i < 8) : units1.drop i = u1 i :: units1.drop (i + 1) :=
  eight (P := fun i => units1.drop i = u1 i :: units1.drop (i + 1)) rfl rfl rfl rfl rfl rfl rfl rfl i hi
theorem rd1 (i : Nat) (hi : i < 8) : rd_T57 U (i : Int) = ⟨ba (u1 i).1, (u1 i).2⟩ :=
  eight (P := fun i => rd_T57 U (i : Int) = ⟨ba (u1 i).1, (u1 i).2⟩) rfl rfl rfl rfl rfl rfl rfl rfl i hi
theorem sec1 (i : Nat) (hi : i < 8) : 0 ≤ (u1 i).2 ∧ (u1 i).2 < 1048576 :=
  eight (P := fun i => 0 ≤ (u1 i).2 ∧ (u1 i).2 < 1048576) (by decide) (by decide) (by decide) (by decide) (by decide) (by decide) (by decide) (by decide) i hi
def resP (n : Int) (r : List UInt8) (o : Option (Int × Nat)) : Int × ByteArray × Bool :=
  match o with
  | some x => (tv (n * x.1), ba (d32 (r.drop x.2)), true)
  | none => (tv (n * 1), ba [], r == [])
theorem part_l1 (r : List UInt8) (n : Int) (h0 : 0 ≤ n) (h1 : n < 1152921504606846976) : ∀ (j i : Nat), i + j = 8 → EvS (fun k => span_part.l1 k (ba r) n none U 8 (i : Int)) (resP n r (fu (units1.drop i) r)) := by
  intro j
  induction j with
  | zero =>
    intro i hi
    obtain rfl : i = 8 := by omega
    refine EvS.pure fun m => ?_
    rw [span_part.l1, if_neg (by decide), times_f n 1 h0 h1 (by decide) (by decide), Option.bind_some, if_pos (show ((none : Option Int).isNone = true) from rfl)]
    have e : (ba r).toList = r := by rw [Lib.toList_data, ba_list]
    rw [e]
    rfl
  | succ j ih =>
    intro i hi
    have hi8 : i < 8 := by omega
    have ih := ih (i + 1) (by omega)
    have hU : (U.length : Int) = 8 := rfl
    by_cases hp : (u1 i).1.isPrefixOf r = true
    · refine EvS.pure fun m => ?_
      obtain ⟨s0, s1⟩ := sec1 i hi8
      rw [span_part.l1, if_pos (by omega), if_pos (by omega), if_pos (by omega), rd1 i hi8, cutp, Option.bind_some, if_pos hp, if_pos rfl, times_f n _ h0 h1 s0 s1, Option.bind_some, trim, Option.bind_some, if_pos (show ((none : Option Int).isNone = true) from rfl)]
      unfold fu
      rw [drop1 i hi8, List.find?_cons, hp]
      rfl
    · have e : fu (units1.drop i) r = fu (units1.drop (i + 1)) r := by
        unfold fu
        have hp' : (u1 i).1.isPrefixOf r = false := Bool.eq_false_iff.mpr hp
        rw [drop1 i hi8, List.find?_cons, hp']
      rw [e]
      refine EvS.step ih fun m => ?_
      rw [span_part.l1, if_pos (by omega), if_pos (by omega), if_pos (by omega), rd1 i hi8, cutp, Option.bind_some, if_neg hp]
      dsimp only
      rw [if_neg (by decide), wrap_ok (by omega) (by omega)]
      rfl
theorem pos_self (t : List UInt8) : pos t t = 0 := by unfold pos; omega
theorem prog_part (t : List UInt8) (ht : t.length ≤ 5000) : match part t with
    | some (v, r) => EvS (fun k => span_part.f k (ba t)) (v, ba r, true)
    | none => ∃ v r, EvS (fun k => span_part.f k (ba t)) (v, r, false) := by
  obtain ⟨ds, hds⟩ : ∃ ds, t.takeWhile isdig = ds := ⟨_, rfl⟩
  obtain ⟨rest, hrest⟩ : ∃ rest, t.dropWhile isdig = rest := ⟨_, rfl⟩
  have ht2 : ds ++ rest = t := by rw [← hds, ← hrest]; exact List.takeWhile_append_dropWhile
  have hp : pos t rest = (ds.length : Int) := by rw [← ht2]; unfold pos; rw [List.length_append]; omega
  have hz : ((ba t).size : Int) = (ds.length : Int) + (rest.length : Int) := by rw [ba_size, ← ht2, List.length_append]; omega
  have go : ∀ res, EvS (fun k => span_part.j1 k (ba t) (ds.length : Int)) res → EvS (fun k => span_part.f k (ba t)) res := by
    intro res ⟨K, h⟩
    refine EvS.of (fun k => span_part.mono _ k) ?_
    have := part_l0 (ba_list t) ht res t (List.suffix_refl _) ⟨K, by rw [hrest, hp]; exact h K (Nat.le_refl _)⟩
    rw [pos_self] at this
    exact this
  unfold part
  rw [hds, hrest]
  by_cases hc : ds.length = 0 ∨ ds.length > 18
  · rw [if_pos hc]
    refine ⟨0, ⟨#[]⟩, go _ ?_⟩
    refine EvS.atLeast 2 fun n => ?_
    rw [span_part.j1]
    by_cases h0 : (ds.length : Int) = 0
    · rw [if_pos h0, span_part.j2, if_pos rfl]
    · rw [if_neg h0, span_part.j2, if_pos (by rw [decide_eq_true_eq]; omega)]
  · rw [if_neg hc]
    have hl : EvS (fun k => span_part.f k (ba t)) (resP (numOf 0 ds : Nat) (d32 rest) (fu unitNames (d32 rest))) := by
      refine go _ ?_
      have hn : ((numOf 0 ds : Nat) : Int) < 1152921504606846976 := by
        have := num_small t (by rw [hds]; omega)
        rw [hds] at this; exact this
      have h1 := part_l1 (d32 rest) (numOf 0 ds : Nat) (by omega) hn 8 0 (by omega)
      rw [List.drop_zero, fu_same] at h1
      have hdig := take_digits t
      rw [hds] at hdig
      have e1 : strconv_ParseUint_31.f (ba ds) 10 64 = some (((numOf 0 ds : Nat) : Int), none) := by
        unfold strconv_ParseUint_31.f
        rw [ba_size, ba_list, if_pos ⟨rfl, rfl, by omega, by omega, hdig⟩]
      obtain ⟨c1, c2⟩ := cut_ba ds rest
      rw [ht2] at c1 c2
      refine EvS.step (EvS.step h1 (f := fun k => span_part.j2 k (ba t) (ds.length : Int) false) fun n => ?_) fun n => ?_
      · rw [span_part.j2, if_neg (by decide), if_pos (by omega), if_pos (by omega), Int.toNat_natCast, c1, c2, e1, Option.bind_some, trim, Option.bind_some, units_f, Option.bind_some]
        rfl
      · rw [span_part.j1, if_neg (by omega), decide_eq_false (by omega)]
    cases hf : fu unitNames (d32 rest) with
    | some x =>
      rw [hf] at hl
      exact hl
    | none =>
      rw [hf] at hl
      simp only []
      by_cases hr : d32 rest = []
      · rw [if_pos hr]
        rw [hr] at hl
        exact hl
      · rw [if_neg hr]
        refine ⟨tv (((numOf 0 ds : Nat) : Int) * 1), ba [], ?_⟩
        have e : (d32 rest == []) = false := by rw [beq_eq_false_iff_ne]; exact hr
        unfold resP at hl
        rw [e] at hl
        exact hl
theorem ba_toList (t : List UInt8) : (ba t).toList = t := by rw [Lib.toList_data, ba_list]
theorem add_ev (a b : Int) (ha : 0 ≤ a ∧ a ≤ 9223372036854775807) (hb : 0 ≤ b ∧ b ≤ 9223372036854775807) : EvS (fun k => span_Add.f k a b) (tv (a + b)) :=
  EvS.atLeast 2 fun n => span_add a b ha.1 ha.2 hb.1 hb.2 n
theorem prog_sum : ∀ (n : Nat) (t : List UInt8) (acc : Int) (first : Bool), t.length ≤ n → t.length ≤ 5000 → 0 ≤ acc ∧ acc ≤ 9223372036854775807 → (first = true ∨ t ≠ []) →
    EvS (fun k => span_Parse.l0 k (ba t) acc first) (sum (n + 1) t acc) := by
  intro n
  induction n with
  | zero =>
    intro t acc first ht h5 hacc hf
    have : t = [] := List.length_eq_zero_iff.1 (by omega)
    subst this
    obtain rfl : first = true := by rcases hf with h | h; exact h; exact absurd rfl h
    have hp := prog_part [] (by decide)
    rw [show part [] = none from rfl] at hp
    obtain ⟨v, r, K, hp⟩ := hp
    refine ⟨K + 2, fun m hm => ?_⟩
    obtain ⟨j, rfl⟩ : ∃ j, m = j + 2 := ⟨m - 2, by omega⟩
    simp only []
    rw [span_Parse.l0, if_pos rfl, span_Parse.j1, if_pos rfl, show span_part.f j (ba []) = _ from hp j (by omega), Option.bind_some]
    dsimp only
    rw [if_neg (by decide)]
    rfl
  | succ n ih =>
    intro t acc first ht h5 hacc hf
    have e0 : ∀ k, span_Parse.l0 (k + 1) (ba t) acc first = span_Parse.j1 k (ba t) acc true := by
      intro k
      rw [span_Parse.l0]
      by_cases h : first = true
      · rw [if_pos h]
      · rw [if_neg h, ba_toList]
        rcases hf with h2 | h2
        · exact absurd h2 h
        · have : (t != []) = true := by simpa using h2
          rw [this]
    have hp := prog_part t h5
    have hr := @part_range t
    have hs := @part_shorter t
    rw [sum]
    cases hpt : part t with
    | none =>
      rw [hpt] at hp
      obtain ⟨v, r, K, hp⟩ := hp
      refine ⟨K + 2, fun m hm => ?_⟩
      obtain ⟨j, rfl⟩ : ∃ j, m = j + 2 := ⟨m - 2, by omega⟩
      simp only []
      rw [e0, span_Parse.j1, if_pos rfl, show span_part.f j (ba t) = _ from hp j (by omega), Option.bind_some]
      dsimp only
      rw [if_neg (by decide)]
    | some x =>
      obtain ⟨v, r⟩ := x
      rw [hpt] at hp
      have hr := hr hpt
      have hs := hs hpt
      obtain ⟨K, hp⟩ := hp
      have htv := tv_range (acc + v) (by omega)
      obtain ⟨K2, ha⟩ := add_ev acc v hacc hr
      have next : ∀ res, EvS (fun k => span_Parse.l0 k (ba r) (tv (acc + v)) false) res → EvS (fun k => span_Parse.l0 k (ba t) acc first) res := by
        intro res ⟨K3, h⟩
        refine ⟨K + K2 + K3 + 2, fun m hm => ?_⟩
        obtain ⟨j, rfl⟩ : ∃ j, m = j + 2 := ⟨m - 2, by omega⟩
        simp only []
        rw [e0, span_Parse.j1, if_pos rfl, show span_part.f j (ba t) = _ from hp j (by omega), Option.bind_some, if_pos rfl]
        simp only []
        rw [show span_Add.f j acc v = _ from ha j (by omega), Option.bind_some]
        exact h j (by omega)
      cases r with
      | nil =>
        refine next _ (EvS.atLeast 2 fun m => ?_)
        rw [span_Parse.l0, if_neg (by decide), ba_toList, span_Parse.j1, if_neg (by decide)]
      | cons c r =>
        exact next _ (ih (c :: r) _ false (by omega) (by omega) htv (.inr (by simp)))
def infinity : List UInt8 := [105, 110, 102, 105, 110, 105, 116, 121]
def reads (L : List UInt8) : Int × Int := if L = infinity then (9223372036854775807, 0) else sum ((d32 L).length + 1) (d32 L) 0
theorem prog_reads (L : List UInt8) (hn : L.length ≤ 5000) : EvS (fun k => span_Parse.f k (ba L)) (reads L) := by
  unfold reads infinity
  have e : (ba L).toList = L := ba_toList L
  by_cases h : L = ([105, 110, 102, 105, 110, 105, 116, 121] : List UInt8)
  · refine ⟨0, fun k _ => ?_⟩
    simp only []
    rw [span_Parse.f, e, if_pos h, if_pos h]
  · rw [if_neg h]
    have hl := (d32_suffix L).length_le
    refine EvS.eqn (prog_sum (d32 L).length (d32 L) 0 true (Nat.le_refl _) (by omega) ⟨by decide, by decide⟩ (.inl rfl)) fun k => ?_
    rw [span_Parse.f, e, if_neg h, trim, Option.bind_some]
end Go.Proofs.YtfpfdeechhaheaaDoor.Reads
