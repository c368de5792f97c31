/- The reference's Sections and Print, plainly. -/
import Derived.Test.YtbigbjfppaenfaaDoorMSect
import Derived.Test.YtbigbjfppaenfaaDoorMg
namespace Go.Proofs.YtbigbjfppaenfaaDoor.Lines
open Go.RowKit Go.Proofs.YtbigbjfppaenfaaDoorW.PrintWords Go.Proofs.YtbigbjfppaenfaaDoorW.PrintLast
set_option linter.unusedVariables false
set_option linter.unusedSimpArgs false
/-- a section once, in the order of its first setting. -/
def sstep (acc : List ByteArray) (s : S37) : List ByteArray := if acc.any (fun a => a.toList == s.f0.toList) then acc else acc ++ [s.f0]
theorem rds {xs : List ByteArray} {i : Nat} (h : i < xs.length) : rdOf ByteArray.empty xs (i : Int) = xs[i] := by
  simp [rdOf, List.getD, h]
theorem sec_l1 (xs : List S37) (j : Nat) (hj : j < xs.length) (acc : List ByteArray) (hb : acc.length < 8796093022208) : ∀ (n i : Nat) (b : Bool) (k : Nat), acc.length = i + n →
    reveilleref6_Sections.l1 (k + n + 1) acc (j : Int) b (i : Int) xs =
      if (b || (acc.drop i).any (fun a => a.toList == (xs[j]).f0.toList)) = true then reveilleref6_Sections.l0 k acc (wrap64 ((j : Int) + 1)) xs
      else reveilleref6_Sections.l0 k (acc ++ [(xs[j]).f0]) (wrap64 ((j : Int) + 1)) xs := by
  intro n
  induction n with
  | zero =>
    intro i b k h
    rw [reveilleref6_Sections.l1, if_neg (by omega), List.drop_of_length_le (by omega)]
    cases b
    · rw [if_neg (by decide), if_pos (by omega), if_pos (by omega), if_pos hb, rdm37 hj]
      simp
    · simp
  | succ n ih =>
    intro i b k h
    have hi : i < acc.length := by omega
    have hd : acc.drop i = acc[i] :: acc.drop (i + 1) := List.drop_eq_getElem_cons hi
    have hw : wrap64 ((i : Int) + 1) = ((i + 1 : Nat) : Int) := by rw [mg_wrap (by omega) (by omega)]; omega
    rw [show k + (n + 1) + 1 = (k + n + 1) + 1 from by omega, reveilleref6_Sections.l1, if_pos (by omega), hw, hd]
    cases b
    · rw [if_neg (by decide), if_pos (by omega), if_pos (by omega), if_pos (by omega), rds hi, rdm37 hj, ih (i + 1) _ k (by omega)]
      simp only [Bool.false_or, List.any_cons]
    · rw [if_pos rfl, ih (i + 1) true k (by omega)]
      simp
theorem sstep_len (acc : List ByteArray) (s : S37) : (sstep acc s).length ≤ acc.length + 1 := by
  unfold sstep
  split
  · exact Nat.le_succ _
  · simp
theorem sec_l0 (xs : List S37) (hx : xs.length < 8796093022208) : ∀ (n j : Nat) (acc : List ByteArray), xs.length = j + n → acc.length + n < 8796093022208 →
    ∃ K, reveilleref6_Sections.l0 K acc (j : Int) xs = some ((xs.drop j).foldl sstep acc) := by
  intro n
  induction n with
  | zero =>
    intro j acc h hb
    refine ⟨1, ?_⟩
    rw [reveilleref6_Sections.l0, if_neg (by omega), List.drop_of_length_le (by omega)]
    rfl
  | succ n ih =>
    intro j acc h hb
    have hj : j < xs.length := by omega
    have hd : xs.drop j = xs[j] :: xs.drop (j + 1) := List.drop_eq_getElem_cons hj
    have hw : wrap64 ((j : Int) + 1) = ((j + 1 : Nat) : Int) := by rw [mg_wrap (by omega) (by omega)]; omega
    obtain ⟨K, hK⟩ := ih (j + 1) (sstep acc (xs[j])) (by omega) (by have := sstep_len acc (xs[j]); omega)
    refine ⟨K + acc.length + 1 + 1, ?_⟩
    have h1 := sec_l1 xs j hj acc (by omega) acc.length 0 false K (by omega)
    rw [show ((0 : Nat) : Int) = 0 from rfl] at h1
    rw [reveilleref6_Sections.l0, if_pos (by omega), h1, hw, hd, List.foldl_cons, ← hK]
    simp only [Bool.false_or, List.drop_zero, sstep]
    split <;> rfl
/-- the reference's Sections is the fold. -/
theorem ref_sections (xs : List S37) (hx : xs.length < 8796093022208) : ∃ k, reveilleref6_Sections.f k xs = some (xs.foldl sstep []) := by
  obtain ⟨K, h⟩ := sec_l0 xs hx xs.length 0 [] (by omega) (by simpa using hx)
  refine ⟨K, ?_⟩
  rw [reveilleref6_Sections.f]
  simpa using h
end Go.Proofs.YtbigbjfppaenfaaDoor.Lines
