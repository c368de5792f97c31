/- A product of a number of eighteen digits and a unit's seconds. -/
import Derived.Test.YtfpfdeechhaheaaDoorReadsF1
import Derived.Laws.Bits64b
namespace Go.Proofs.YtfpfdeechhaheaaDoor.Reads
open Go.RowKit
theorem u64_small (n : Int) (h0 : 0 ≤ n) (h1 : n < 18446744073709551616) : IntKind.u64.wrap n = n := by
  unfold IntKind.wrap
  simp [IntKind.bits, IntKind.signed]
  omega
theorem u64_mod (n : Int) : IntKind.u64.wrap n = n % 18446744073709551616 := by
  unfold IntKind.wrap
  simp [IntKind.bits, IntKind.signed]
theorem and32 (n : Int) (h0 : 0 ≤ n) (h1 : n < 18446744073709551616) : Go.bits .and .u64 n 4294967295 = n % 4294967296 := by
  obtain ⟨m, rfl⟩ : ∃ m : Nat, n = m := ⟨n.toNat, by omega⟩
  have h := bits_and_u64_nat m 4294967295 (by omega) (by decide)
  have e : m &&& 4294967295 = m % 4294967296 := Nat.and_two_pow_sub_one_eq_mod m 32
  rw [e] at h
  rw [show ((4294967295 : Nat) : Int) = 4294967295 from rfl] at h
  rw [h]
  omega
theorem mul64 (a b : Int) (h0 : 0 ≤ a) (h1 : a < 1152921504606846976) (h2 : 0 ≤ b) (h3 : b < 1048576) : bits_Mul64.f a b = some (a * b / 18446744073709551616, a * b % 18446744073709551616) := by
  unfold bits_Mul64.f
  rw [and32 a h0 (by omega), and32 b h2 (by omega)]
  have eb1 : b / 4294967296 = 0 := by omega
  have eb0 : b % 4294967296 = b := by omega
  rw [eb1, eb0, Int.mul_zero, Int.mul_zero]
  obtain ⟨x, hx⟩ : ∃ x, a / 4294967296 = x := ⟨_, rfl⟩
  obtain ⟨y, hy⟩ : ∃ y, a % 4294967296 = y := ⟨_, rfl⟩
  have ha : a = x * 4294967296 + y := by omega
  have hx0 : 0 ≤ x ∧ x < 268435456 := by omega
  have hy0 : 0 ≤ y ∧ y < 4294967296 := by omega
  rw [hx, hy]
  have hab : a * b = (x * b) * 4294967296 + y * b := by rw [ha, Int.add_mul, Int.mul_assoc, Int.mul_comm 4294967296, ← Int.mul_assoc]
  have p0 : 0 ≤ x * b := Int.mul_nonneg hx0.1 h2
  have q0 : 0 ≤ y * b := Int.mul_nonneg hy0.1 h2
  have p1 : x * b ≤ 268435456 * 1048576 := Int.mul_le_mul (by omega) (by omega) h2 (by decide)
  have q1 : y * b ≤ 4294967296 * 1048576 := Int.mul_le_mul (by omega) (by omega) h2 (by decide)
  rw [hab]
  obtain ⟨p, hp⟩ : ∃ p, x * b = p := ⟨_, rfl⟩
  obtain ⟨q, hq⟩ : ∃ q, y * b = q := ⟨_, rfl⟩
  rw [hp] at p0 p1
  rw [hq] at q0 q1
  rw [hp, hq]
  rw [u64_small p p0 (by omega), u64_small q q0 (by omega), u64_small (p + q / 4294967296) (by omega) (by omega), u64_small 0 (by decide) (by decide), and32 (p + q / 4294967296) (by omega) (by omega), u64_mod]
  congr 1
  refine Prod.ext ?_ ?_
  · simp only [u64_mod]; omega
  · simp only [u64_mod]
/-- within bounds -/
def tv (v : Int) : Int := if v > 9223372036854775807 then 9223372036854775807 else v
theorem times_f (a b : Int) (h0 : 0 ≤ a) (h1 : a < 1152921504606846976) (h2 : 0 ≤ b) (h3 : b < 1048576) : span_times.f a b = some (tv (a * b)) := by
  unfold span_times.f
  rw [mul64 a b h0 h1 h2 h3, Option.bind_some]
  have hp : 0 ≤ a * b := Int.mul_nonneg h0 h2
  obtain ⟨v, hv⟩ : ∃ v, a * b = v := ⟨_, rfl⟩
  rw [hv] at hp ⊢
  unfold tv
  simp only
  by_cases c1 : v / 18446744073709551616 > 0
  · rw [if_pos c1, if_pos (by omega)]
  · rw [if_neg c1]
    by_cases c2 : v % 18446744073709551616 > 9223372036854775807
    · rw [if_pos c2, if_pos (by omega)]
    · rw [if_neg c2, if_neg (by omega)]
      congr 1
      unfold wrap64
      omega
theorem tv_range (v : Int) (h : 0 ≤ v) : 0 ≤ tv v ∧ tv v ≤ 9223372036854775807 := by
  unfold tv
  split <;> omega
theorem span_add (a b : Int) (ha : 0 ≤ a) (ha2 : a ≤ 9223372036854775807) (hb : 0 ≤ b) (hb2 : b ≤ 9223372036854775807) (k : Nat) : span_Add.f (k + 2) a b = some (tv (a + b)) := by
  have key : ∀ x, span_Add.j1 (k + 1) a b (wrap64 (a + b)) x = if x = true then some 9223372036854775807 else some (wrap64 (a + b)) := by
    intro x
    rw [span_Add.j1]
    by_cases hx : x = true
    · rw [if_pos hx, if_pos hx]
    · rw [if_neg hx, if_neg hx, if_neg (by omega)]
  have hj : ∀ y, (y = true ↔ (a = 9223372036854775807 ∨ b = 9223372036854775807)) → span_Add.j0 (k + 2) a b (wrap64 (a + b)) y = some (tv (a + b)) := by
    intro y hy
    rw [span_Add.j0]
    by_cases h1 : y = true
    · rw [if_pos h1]
      have := hy.1 h1
      unfold tv
      by_cases h2 : a + b > 9223372036854775807
      · rw [if_pos h2]
      · rw [if_neg h2]; congr 1; omega
    · rw [if_neg h1, key, key]
      have hn : ¬ (a = 9223372036854775807 ∨ b = 9223372036854775807) := fun h => h1 (hy.2 h)
      unfold tv wrap64
      by_cases h2 : a > 0
      · rw [if_pos h2]
        by_cases h3 : b > 0
        · rw [if_pos h3]
          by_cases h4 : a + b > 9223372036854775807
          · rw [if_pos (by rw [decide_eq_true_eq]; omega), if_pos h4]
          · rw [if_neg (by rw [decide_eq_true_eq]; omega), if_neg h4]; congr 1; omega
        · rw [if_neg h3, if_neg (by decide), if_neg (by omega)]; congr 1; omega
      · rw [if_neg h2, if_neg (by decide), if_neg (by omega)]; congr 1; omega
  unfold span_Add.f
  by_cases h1 : a = 9223372036854775807
  · rw [if_pos h1]; exact hj true (by simp [h1])
  · rw [if_neg h1]; exact hj _ (by simp [h1])
theorem ref_add (a b : Int) (ha : 0 ≤ a) (ha2 : a ≤ 9223372036854775807) (hb : 0 ≤ b) (hb2 : b ≤ 9223372036854775807) (k : Nat) : reveilleref1_Add.f (k + 2) a b = some (tv (a + b)) := by
  have hw : wrap64 (IntKind.u64.wrap ((IntKind.u64.wrap a) + (IntKind.u64.wrap b))) = wrap64 (a + b) := by
    simp only [u64_mod]; unfold wrap64; omega
  have hs : ((decide (a < 0)) == (decide (b < 0))) = true := by
    rw [decide_eq_false (by omega), decide_eq_false (by omega)]; rfl
  have hj : ∀ y, (y = true ↔ (a = 9223372036854775807 ∨ b = 9223372036854775807)) → reveilleref1_Add.j0 (k + 2) a b y = some (tv (a + b)) := by
    intro y hy
    rw [reveilleref1_Add.j0]
    by_cases h1 : y = true
    · rw [if_pos h1]
      have := hy.1 h1
      unfold tv
      by_cases h2 : a + b > 9223372036854775807
      · rw [if_pos h2]
      · rw [if_neg h2]; congr 1; omega
    · rw [if_neg h1, if_pos hs, hw, reveilleref1_Add.j1, decide_eq_false (show ¬ a < 0 by omega)]
      have hn : ¬ (a = 9223372036854775807 ∨ b = 9223372036854775807) := fun h => h1 (hy.2 h)
      unfold tv wrap64
      by_cases h4 : a + b > 9223372036854775807
      · rw [decide_eq_true (by omega), if_pos (by decide), if_neg (by omega), if_pos h4]
      · rw [decide_eq_false (by omega), if_neg (by decide), if_neg h4]; congr 1; omega
  unfold reveilleref1_Add.f
  by_cases h1 : a = 9223372036854775807
  · rw [if_pos h1]; exact hj true (by simp [h1])
  · rw [if_neg h1]; exact hj _ (by simp [h1])
end Go.Proofs.YtfpfdeechhaheaaDoor.Reads
