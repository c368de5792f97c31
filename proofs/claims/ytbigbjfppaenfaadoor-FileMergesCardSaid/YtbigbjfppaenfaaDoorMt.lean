/- FileMerges plainly: the hits of a key, and the first n of them. -/
import Derived.Test.YtbigbjfppaenfaaDoorMr
namespace Go.Proofs.YtbigbjfppaenfaaDoor.Lines
open Go.RowKit Go.Proofs.YtbigbjfppaenfaaDoorW.PrintWords Go.Proofs.YtbigbjfppaenfaaDoorW.PrintLast
set_option linter.unusedVariables false
set_option linter.unusedSimpArgs false
/-- a setting of the section and the key. -/
def hit (sec key : ByteArray) (s : S37) : Bool := decide (s.f0.toList = sec.toList) && decide (s.f1.toList = key.toList)
/-- the hits, each with its place. -/
def hitsF (sec key : ByteArray) : Nat → List S37 → List (Nat × ByteArray)
  | _, [] => []
  | i, s :: r => if hit sec key s then (i, s.f2) :: hitsF sec key (i + 1) r else hitsF sec key (i + 1) r
theorem hitsF_append (sec key : ByteArray) : ∀ (a b : List S37) (i : Nat), hitsF sec key i (a ++ b) = hitsF sec key i a ++ hitsF sec key (i + a.length) b := by
  intro a
  induction a with
  | nil => intro b i; rfl
  | cons s a ih =>
    intro b i
    simp only [List.cons_append, hitsF, ih, List.length_cons, show i + 1 + a.length = i + (a.length + 1) from by omega]
    split <;> rfl
theorem hitsF_len (sec key : ByteArray) : ∀ (a : List S37) (i : Nat), (hitsF sec key i a).length ≤ a.length := by
  intro a
  induction a with
  | nil => intro i; simp [hitsF]
  | cons s a ih => intro i; have := ih (i + 1); simp only [hitsF]; split <;> simp only [List.length_cons] <;> omega
/-- the first n; all, where n is below one. -/
def lim {α : Type} (n : Int) (l : List α) : List α := if 1 ≤ n then l.take n.toNat else l
theorem lim_full {α : Type} {n : Int} {a : List α} (h1 : 1 ≤ n) (h2 : n ≤ ((lim n a).length : Int)) (b : List α) : lim n (a ++ b) = lim n a := by
  unfold lim at *
  rw [if_pos h1] at h2
  rw [if_pos h1, if_pos h1]
  rw [List.length_take] at h2
  rw [List.take_append_of_le_length (by omega)]
theorem lim_next {α : Type} {n : Int} {a : List α} (h : ¬(1 ≤ n ∧ n ≤ ((lim n a).length : Int))) (x : α) (b : List α) :
    (lim n (a ++ x :: b))[(lim n a).length]? = some x ∧ (lim n (a ++ [x])).length = (lim n a).length + 1 := by
  unfold lim at *
  by_cases h1 : 1 ≤ n
  · rw [if_pos h1] at h ⊢
    rw [if_pos h1, if_pos h1]
    rw [List.length_take] at h ⊢
    have hl : a.length < n.toNat := by omega
    rw [Nat.min_eq_right (by omega), List.getElem?_take_of_lt hl, List.length_take, List.length_append]
    refine ⟨by simp, ?_⟩
    simp only [List.length_cons, List.length_nil]
    omega
  · rw [if_neg h1, if_neg h1, if_neg h1]
    simp
/-- a walk that collects until it has n: it stops at the n-th. -/
theorem lim_stop {α : Type} {n : Int} {p : List α} {x : α} (h : ((p ++ [x]).length : Int) = n) (b : List α) : lim n (p ++ x :: b) = p ++ [x] := by
  unfold lim
  simp only [List.length_append, List.length_cons, List.length_nil] at h
  rw [if_pos (by omega), show n.toNat = (p ++ [x]).length from by simp; omega, show p ++ x :: b = (p ++ [x]) ++ b from by simp]
  exact List.take_left' rfl
/-- and one that never stopped has all. -/
theorem lim_all {α : Type} {n : Int} {p : List α} (h : n < 1 ∨ (p.length : Int) < n) : lim n p = p := by
  unfold lim
  split
  · exact List.take_of_length_le (by omega)
  · rfl
end Go.Proofs.YtbigbjfppaenfaaDoor.Lines
