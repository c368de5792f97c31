/- The reference's Print, plainly. -/
import Derived.Test.YtbigbjfppaenfaaDoorMPrint
import Derived.Test.YtbigbjfppaenfaaDoorMs
namespace Go.Proofs.YtbigbjfppaenfaaDoor.Lines
open Go.RowKit Go.Proofs.YtbigbjfppaenfaaDoorW.PrintWords Go.Proofs.YtbigbjfppaenfaaDoorW.PrintLast
set_option linter.unusedVariables false
set_option linter.unusedSimpArgs false
/-- a setting's line under a section. -/
def pstep (sec : ByteArray) (acc : ByteArray) (s : S37) : ByteArray :=
  if s.f0.toList = sec.toList then (((acc ++ s.f1) ++ (⟨#[61]⟩ : ByteArray)) ++ s.f2) ++ (⟨#[10]⟩ : ByteArray) else acc
/-- a section: its head and its lines. -/
def ptstep (xs : List S37) (acc : ByteArray) (sec : ByteArray) : ByteArray := xs.foldl (pstep sec) (((acc ++ (⟨#[91]⟩ : ByteArray)) ++ sec) ++ (⟨#[93, 10]⟩ : ByteArray))
theorem sz61 : (⟨#[61]⟩ : ByteArray).size = 1 := rfl
theorem sz10 : (⟨#[10]⟩ : ByteArray).size = 1 := rfl
theorem sz91 : (⟨#[91]⟩ : ByteArray).size = 1 := rfl
theorem sz93 : (⟨#[93, 10]⟩ : ByteArray).size = 2 := rfl
theorem pstep_size (sec acc : ByteArray) (s : S37) : (pstep sec acc s).size ≤ acc.size + (s.f1.size + s.f2.size + 2) := by
  unfold pstep
  split
  · simp only [ByteArray.size_append, sz61, sz10]; omega
  · omega
/-- what the lines of a row may measure. -/
def wide (xs : List S37) : Nat := (xs.map (fun s => s.f1.size + s.f2.size + 2)).sum
theorem pfold_size (sec : ByteArray) : ∀ (xs : List S37) (acc : ByteArray), (xs.foldl (pstep sec) acc).size ≤ acc.size + wide xs := by
  intro xs
  induction xs with
  | nil => intro acc; simp [wide]
  | cons s xs ih => intro acc; have h1 := ih (pstep sec acc s); have h2 := pstep_size sec acc s; simp only [List.foldl_cons, wide, List.map_cons, List.sum_cons] at *; omega
theorem pr_l1 (secs : List ByteArray) (xs : List S37) (hx : xs.length < 9223372036854775807) (i : Nat) (hi : i < secs.length) : ∀ (n j : Nat) (acc : ByteArray) (k : Nat), xs.length = j + n → acc.size + wide (xs.drop j) ≤ 9223372036854775807 →
    reveilleref6_Print.l1 (k + n + 1) acc secs (i : Int) (j : Int) xs = reveilleref6_Print.l0 k ((xs.drop j).foldl (pstep secs[i]) acc) secs (wrap64 ((i : Int) + 1)) xs := by
  intro n
  induction n with
  | zero =>
    intro j acc k h hb
    rw [reveilleref6_Print.l1, if_neg (by omega), List.drop_of_length_le (by omega)]
    rfl
  | succ n ih =>
    intro j acc k h hb
    have hj : j < xs.length := by omega
    have hd : xs.drop j = xs[j] :: xs.drop (j + 1) := List.drop_eq_getElem_cons hj
    have hw : wrap64 ((j : Int) + 1) = ((j + 1 : Nat) : Int) := by rw [mg_wrap (by omega) (by omega)]; omega
    rw [hd] at hb
    simp only [wide, List.map_cons, List.sum_cons] at hb
    have hz := pstep_size secs[i] acc xs[j]
    have hi2 := ih (j + 1) (pstep secs[i] acc xs[j]) k (by omega) (by simp only [wide]; omega)
    rw [show k + (n + 1) + 1 = (k + n + 1) + 1 from by omega, reveilleref6_Print.l1, if_pos (by omega), if_pos (by omega), if_pos (by omega), if_pos (by omega), rdm37 hj, rds hi, hw, hd, List.foldl_cons, ← hi2]
    by_cases he : (xs[j]).f0.toList = (secs[i]).toList
    · rw [if_pos he, if_pos (by omega), if_pos (by simp only [ByteArray.size_append]; omega), if_pos (by simp only [ByteArray.size_append, sz61]; omega),
        if_pos (by simp only [ByteArray.size_append, sz61]; omega)]
      simp only [pstep, if_pos he]
    · rw [if_neg he]
      simp only [pstep, if_neg he]
/-- what the whole may measure. -/
def wides (xs : List S37) (secs : List ByteArray) : Nat := (secs.map (fun s => s.size + 3 + wide xs)).sum
theorem ptstep_size (xs : List S37) (acc sec : ByteArray) : (ptstep xs acc sec).size ≤ acc.size + (sec.size + 3 + wide xs) := by
  unfold ptstep
  refine Nat.le_trans (pfold_size sec xs _) ?_
  simp only [ByteArray.size_append, sz91, sz93]; omega
theorem pr_l0 (secs : List ByteArray) (xs : List S37) (hx : xs.length < 9223372036854775807) (hs : secs.length < 9223372036854775807) : ∀ (n i : Nat) (acc : ByteArray), secs.length = i + n → acc.size + wides xs (secs.drop i) ≤ 9223372036854775807 →
    ∃ K, reveilleref6_Print.l0 K acc secs (i : Int) xs = some ((secs.drop i).foldl (ptstep xs) acc) := by
  intro n
  induction n with
  | zero =>
    intro i acc h hb
    refine ⟨1, ?_⟩
    rw [reveilleref6_Print.l0, if_neg (by omega), List.drop_of_length_le (by omega)]
    rfl
  | succ n ih =>
    intro i acc h hb
    have hi : i < secs.length := by omega
    have hd : secs.drop i = secs[i] :: secs.drop (i + 1) := List.drop_eq_getElem_cons hi
    have hw : wrap64 ((i : Int) + 1) = ((i + 1 : Nat) : Int) := by rw [mg_wrap (by omega) (by omega)]; omega
    rw [hd] at hb
    simp only [wides, List.map_cons, List.sum_cons] at hb
    have hz := ptstep_size xs acc secs[i]
    obtain ⟨K, hK⟩ := ih (i + 1) (ptstep xs acc secs[i]) (by omega) (by simp only [wides]; omega)
    refine ⟨K + xs.length + 1 + 1, ?_⟩
    have h1 := pr_l1 secs xs hx i hi xs.length 0 (((acc ++ (⟨#[91]⟩ : ByteArray)) ++ secs[i]) ++ (⟨#[93, 10]⟩ : ByteArray)) K (by omega) (by simp only [ByteArray.size_append, sz91, sz93, List.drop_zero]; omega)
    rw [show ((0 : Nat) : Int) = 0 from rfl, List.drop_zero, hw] at h1
    rw [reveilleref6_Print.l0, if_pos (by omega), if_pos (by omega), if_pos (by omega), rds hi, if_pos (by simp only [ByteArray.size_append, sz91]; omega), if_pos (by simp only [ByteArray.size_append, sz91]; omega), h1, hd, List.foldl_cons, ← hK]
    rfl
theorem up_some {α : Type} (g : Nat → Option α) (hg : ∀ k r, g k = some r → g (k + 1) = some r) {k : Nat} {r : α} (h : g k = some r) : ∀ n, g (k + n) = some r := by
  intro n
  induction n with
  | zero => exact h
  | succ n ih => exact hg _ _ ih
/-- the reference's Print is the fold over the sections. -/
theorem ref_print (xs : List S37) (hx : xs.length < 8796093022208) (hs : (xs.foldl sstep []).length < 9223372036854775807) (hb : wides xs (xs.foldl sstep []) ≤ 9223372036854775807) :
    ∃ k, reveilleref6_Print.f k xs = some ((xs.foldl sstep []).foldl (ptstep xs) (⟨#[]⟩ : ByteArray)) := by
  obtain ⟨k1, h1⟩ := ref_sections xs hx
  obtain ⟨k2, h2⟩ := pr_l0 (xs.foldl sstep []) xs (by omega) hs (xs.foldl sstep []).length 0 (⟨#[]⟩ : ByteArray) (by omega) (by rw [List.drop_zero]; have e : (⟨#[]⟩ : ByteArray).size = 0 := rfl; omega)
  have u1 := up_some (fun k => reveilleref6_Sections.f k xs) (fun k r h => reveilleref6_Sections.mono xs k r h) h1 k2
  have u2 := up_some (fun k => reveilleref6_Print.l0 k (⟨#[]⟩ : ByteArray) (xs.foldl sstep []) 0 xs) (fun k r h => (reveilleref6_Print.mono_l k).1 _ _ _ _ r h) (by simpa using h2) k1
  refine ⟨k1 + k2, ?_⟩
  rw [reveilleref6_Print.f]
  rw [u1, Option.bind_some, Nat.add_comm k1 k2]
  exact u2
end Go.Proofs.YtbigbjfppaenfaaDoor.Lines
