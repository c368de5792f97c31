/- Merge, plainly: what the walk backward gives, and what the reference gives, is one fold. -/
import Derived.Test.YtbigbjfppaenfaaDoorMMerge
namespace Go.Proofs.YtbigbjfppaenfaaDoor.Lines
open Go.RowKit Go.Proofs.YtbigbjfppaenfaaDoorW.PrintWords Go.Proofs.YtbigbjfppaenfaaDoorW.PrintLast
set_option linter.unusedVariables false
set_option linter.unusedSimpArgs false
/-- two settings name the same key. -/
def sameK (s t : S37) : Bool := decide (s.f0.toList = t.f0.toList) && decide (s.f1.toList = t.f1.toList)
/-- a setting that empties its key. -/
def empK (t : S37) : Bool := decide (t.f2.toList = [])
/-- one setting more: an empty one takes the key's others away, another stands behind them. -/
def mstep (acc : List S37) (t : S37) : List S37 := if empK t then acc.filter (fun s => !sameK s t) else acc ++ [t]
/-- the walk backward: what is gone, and what stands. -/
def bkw : List S37 → List S37 → List S37 → List S37
  | _, [], out => out
  | g, t :: rs, out => if empK t then bkw (t :: g) rs out else if g.any (fun x => sameK t x) then bkw g rs out else bkw g rs (out ++ [t])
theorem bkw_fold : ∀ (ys g out : List S37), (bkw g ys out).reverse = (ys.reverse.foldl mstep []).filter (fun s => !g.any (fun x => sameK s x)) ++ out.reverse := by
  intro ys
  induction ys with
  | nil => intro g out; simp [bkw]
  | cons t ys ih =>
    intro g out
    simp only [bkw, List.reverse_cons, List.foldl_append, List.foldl_cons, List.foldl_nil]
    by_cases he : empK t = true
    · rw [if_pos he, ih, mstep, if_pos he, List.filter_filter]
      congr 1
      apply List.filter_congr
      intro s _
      simp [List.any_cons, Bool.not_or, Bool.and_comm]
    · rw [if_neg he, mstep, if_neg he]
      by_cases hg : g.any (fun x => sameK t x) = true
      · rw [if_pos hg, ih, List.filter_append, List.filter_cons, if_neg (by rw [hg]; decide)]
        simp
      · rw [if_neg hg, ih, List.filter_append, List.filter_cons, if_pos (by simpa using hg)]
        simp
theorem bkw_all (xs : List S37) : (bkw [] xs.reverse []).reverse = xs.foldl mstep [] := by
  rw [bkw_fold]; simp
theorem mstep_len (acc : List S37) (t : S37) : (mstep acc t).length ≤ acc.length + 1 := by
  unfold mstep
  split
  · exact Nat.le_trans (List.length_filter_le _ _) (Nat.le_succ _)
  · simp
theorem fold_len : ∀ (xs acc : List S37), (xs.foldl mstep acc).length ≤ acc.length + xs.length := by
  intro xs
  induction xs with
  | nil => intro acc; simp
  | cons t xs ih => intro acc; simp only [List.foldl_cons, List.length_cons]; have := ih (mstep acc t); have := mstep_len acc t; omega
theorem mg_wrap {n : Int} (h0 : 0 ≤ n) (h1 : n < 9223372036854775807) : wrap64 (n + 1) = n + 1 := by unfold wrap64; omega
theorem eta37 (s : S37) : (⟨s.f0, s.f1, s.f2, s.f3⟩ : S37) = s := rfl
theorem rdm37 {xs : List S37} {i : Nat} (h : i < xs.length) : rd_T37 xs (i : Int) = xs[i] := by
  simp [rd_T37, List.getD, h]
theorem rdm25 {xs : List S25} {i : Nat} (h : i < xs.length) : rd_T25 xs (i : Int) = xs[i] := by
  simp [rd_T25, List.getD, h]
/-- the reference's innermost loop filters. -/
theorem l2_filter (x0 : List S25) (x3 : List S37) (x4 x5 : Int) (t : S37) (hb : x3.length < 2513169434916) : ∀ (n i : Nat) (x7 : List S37) (k : Nat), x3.length = i + n → x7.length ≤ i →
    reveilleref6_Merge.l2 (k + n + 1) x0 x3 x4 x5 x7 (i : Int) t.f0 t.f1 t.f2 t.f3 = reveilleref6_Merge.l1 k x0 (x7 ++ (x3.drop i).filter (fun s => !sameK s t)) x4 (wrap64 (x5 + 1)) := by
  intro n
  induction n with
  | zero =>
    intro i x7 k h h7
    rw [reveilleref6_Merge.l2, if_neg (by omega), List.drop_of_length_le (by omega)]
    simp
  | succ n ih =>
    intro i x7 k h h7
    have hi : i < x3.length := by omega
    have hd : x3.drop i = x3[i] :: x3.drop (i + 1) := List.drop_eq_getElem_cons hi
    have hw : wrap64 ((i : Int) + 1) = ((i + 1 : Nat) : Int) := by rw [mg_wrap (by omega) (by omega)]; omega
    have hc : x7.length < 2513169434916 := by omega
    rw [show k + (n + 1) + 1 = (k + n + 1) + 1 from by omega, reveilleref6_Merge.l2, if_pos (by omega), if_pos (by omega), rdm37 hi, eta37, hw, if_pos hc, ih (i + 1) x7 k (by omega) (by omega),
      ih (i + 1) (x7 ++ [x3[i]]) k (by omega) (by simp; omega), hd, List.filter_cons]
    by_cases h0 : (x3[i]).f0.toList = t.f0.toList <;> by_cases h1 : (x3[i]).f1.toList = t.f1.toList <;> simp [sameK, h0, h1]
/-- one file. -/
theorem l1_fold (x0 : List S25) (i : Nat) (hi : i < x0.length) : ∀ (n j : Nat) (x3 : List S37), (x0[i]).f0.length = j + n → x3.length + n < 2513169434916 → (x0[i]).f0.length < 2513169434916 →
    ∃ K, ∀ k, reveilleref6_Merge.l1 (K + k) x0 x3 (i : Int) (j : Int) = reveilleref6_Merge.l0 k x0 (((x0[i]).f0.drop j).foldl mstep x3) (wrap64 ((i : Int) + 1)) := by
  intro n
  induction n with
  | zero =>
    intro j x3 h hb hl
    refine ⟨1, fun k => ?_⟩
    rw [Nat.add_comm 1 k, reveilleref6_Merge.l1, if_pos (by omega), if_pos (by omega), rdm25 hi, if_neg (by omega), List.drop_of_length_le (by omega)]
    rfl
  | succ n ih =>
    intro j x3 h hb hl
    have hj : j < (x0[i]).f0.length := by omega
    have hd : (x0[i]).f0.drop j = ((x0[i]).f0)[j] :: (x0[i]).f0.drop (j + 1) := List.drop_eq_getElem_cons hj
    have hw : wrap64 ((j : Int) + 1) = ((j + 1 : Nat) : Int) := by rw [mg_wrap (by omega) (by omega)]; omega
    obtain ⟨K, hK⟩ := ih (j + 1) (mstep x3 (((x0[i]).f0)[j])) (by omega) (by have := mstep_len x3 (((x0[i]).f0)[j]); omega) hl
    by_cases he : (((x0[i]).f0)[j]).f2.toList = []
    · refine ⟨K + x3.length + 2, fun k => ?_⟩
      rw [show K + x3.length + 2 + k = (K + k + x3.length + 1) + 1 from by omega, reveilleref6_Merge.l1, if_pos (by omega), if_pos (by omega), rdm25 hi, if_pos (by omega), if_pos (by omega), rdm37 hj, if_pos he]
      have := l2_filter x0 x3 (i : Int) (j : Int) (((x0[i]).f0)[j]) (by omega) x3.length 0 [] (K + k) (by omega) (by simp)
      simp only [Int.ofNat_zero, List.nil_append, List.drop_zero] at this
      rw [this, hw, hd, List.foldl_cons]
      have hm : mstep x3 (((x0[i]).f0)[j]) = x3.filter (fun s => !sameK s (((x0[i]).f0)[j])) := by rw [mstep, if_pos (by simp [empK, he])]
      rw [← hm]
      exact hK k
    · refine ⟨K + 1, fun k => ?_⟩
      rw [show K + 1 + k = (K + k) + 1 from by omega, reveilleref6_Merge.l1, if_pos (by omega), if_pos (by omega), rdm25 hi, if_pos (by omega), if_pos (by omega), rdm37 hj, if_neg he, if_pos (by omega), eta37, hw, hd, List.foldl_cons]
      have hm : mstep x3 (((x0[i]).f0)[j]) = x3 ++ [((x0[i]).f0)[j]] := by rw [mstep, if_neg (by simp [empK, he])]
      rw [← hm]
      exact hK k
/-- all files. -/
theorem l0_fold (x0 : List S25) (h0 : x0.length < 2513169434916) : ∀ (n i : Nat) (x3 : List S37), x0.length = i + n → x3.length + ((x0.drop i).flatMap (fun f => f.f0)).length < 2513169434916 →
    ∃ K, reveilleref6_Merge.l0 K x0 x3 (i : Int) = some (((x0.drop i).flatMap (fun f => f.f0)).foldl mstep x3) := by
  intro n
  induction n with
  | zero =>
    intro i x3 h hb
    refine ⟨1, ?_⟩
    rw [reveilleref6_Merge.l0, if_neg (by omega), List.drop_of_length_le (by omega)]
    rfl
  | succ n ih =>
    intro i x3 h hb
    have hi : i < x0.length := by omega
    have hd : x0.drop i = x0[i] :: x0.drop (i + 1) := List.drop_eq_getElem_cons hi
    have hw : wrap64 ((i : Int) + 1) = ((i + 1 : Nat) : Int) := by rw [mg_wrap (by omega) (by omega)]; omega
    rw [hd, List.flatMap_cons, List.length_append] at hb
    obtain ⟨K0, hK0⟩ := ih (i + 1) ((x0[i]).f0.foldl mstep x3) (by omega) (by have := fold_len (x0[i]).f0 x3; omega)
    obtain ⟨K1, hK1⟩ := l1_fold x0 i hi (x0[i]).f0.length 0 x3 (by omega) (by omega) (by omega)
    refine ⟨K1 + K0 + 1, ?_⟩
    have := hK1 K0
    rw [show ((0 : Nat) : Int) = 0 from rfl, List.drop_zero, hw] at this
    rw [reveilleref6_Merge.l0, if_pos (by omega), this, hK0, hd, List.flatMap_cons, List.foldl_append]
/-- the reference's Merge is the fold. -/
theorem ref_merge (x0 : List S25) (h0 : x0.length < 2513169434916) (hb : (x0.flatMap (fun f => f.f0)).length < 2513169434916) :
    ∃ k, reveilleref6_Merge.f k x0 = some ((x0.flatMap (fun f => f.f0)).foldl mstep []) := by
  obtain ⟨K, h⟩ := l0_fold x0 h0 x0.length 0 [] (by omega) (by simpa using hb)
  refine ⟨K, ?_⟩
  rw [reveilleref6_Merge.f]
  simpa using h
end Go.Proofs.YtbigbjfppaenfaaDoor.Lines
