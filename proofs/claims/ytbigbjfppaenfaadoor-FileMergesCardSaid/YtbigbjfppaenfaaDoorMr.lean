/- The reference's Same and Texts of a row with itself; what 'small' says. -/
import Derived.Test.YtbigbjfppaenfaaDoorMSame
import Derived.Test.YtbigbjfppaenfaaDoorMTexts
import Derived.Test.YtbigbjfppaenfaaDoorMSmall
import Derived.Test.YtbigbjfppaenfaaDoorMs
namespace Go.Proofs.YtbigbjfppaenfaaDoor.Lines
open Go.RowKit Go.Proofs.YtbigbjfppaenfaaDoorW.PrintWords Go.Proofs.YtbigbjfppaenfaaDoorW.PrintLast
set_option linter.unusedVariables false
set_option linter.unusedSimpArgs false
theorem same_l0 (xs : List S37) (hx : xs.length < 9223372036854775807) : ∀ (n j k : Nat), xs.length = j + n → reveilleref6_Same.l0 (k + n + 1) (j : Int) xs xs = some true := by
  intro n
  induction n with
  | zero => intro j k h; rw [reveilleref6_Same.l0, if_neg (by omega)]
  | succ n ih =>
    intro j k h
    have hw : wrap64 ((j : Int) + 1) = ((j + 1 : Nat) : Int) := by rw [mg_wrap (by omega) (by omega)]; omega
    rw [show k + (n + 1) + 1 = (k + n + 1) + 1 from by omega, reveilleref6_Same.l0, if_pos (by omega), if_pos (by omega), if_pos (by omega), if_neg (by simp), hw, ih (j + 1) k (by omega)]
theorem same_self (xs : List S37) (hx : xs.length < 9223372036854775807) : ∃ k, reveilleref6_Same.f k xs xs = some true := by
  refine ⟨0 + xs.length + 1, ?_⟩
  rw [reveilleref6_Same.f, if_pos rfl]
  exact same_l0 xs hx xs.length 0 0 (by omega)
theorem texts_l0 (xs : List ByteArray) (hx : xs.length < 9223372036854775807) : ∀ (n j k : Nat), xs.length = j + n → reveillehelp_Texts.l0 (k + n + 1) xs xs (j : Int) = some true := by
  intro n
  induction n with
  | zero => intro j k h; rw [reveillehelp_Texts.l0, if_neg (by omega)]
  | succ n ih =>
    intro j k h
    have hw : wrap64 ((j : Int) + 1) = ((j + 1 : Nat) : Int) := by rw [mg_wrap (by omega) (by omega)]; omega
    rw [show k + (n + 1) + 1 = (k + n + 1) + 1 from by omega, reveillehelp_Texts.l0, if_pos (by omega), if_pos (by omega), if_pos (by omega), if_pos rfl, hw, ih (j + 1) k (by omega)]
theorem texts_self (xs : List ByteArray) (hx : xs.length < 9223372036854775807) : ∃ k, reveillehelp_Texts.f k xs xs = some true := by
  refine ⟨0 + xs.length + 1, ?_⟩
  rw [reveillehelp_Texts.f, if_pos rfl]
  exact texts_l0 xs hx xs.length 0 0 (by omega)
/-- a file that 'small' lets pass, seen from the count so far. -/
def fits (s : S37) : Prop := (wrap64 ((wrap64 ((s.f0.size : Int) + (s.f1.size : Int))) + (s.f2.size : Int))) ≤ 500
/-- one file of 'small': it hands a count on, or says no. -/
theorem small_l1 (x0 : List S25) (i : Nat) (hi : i < x0.length) (c : Int) : ∀ (n j : Nat), (x0[i]).f0.length = j + n → (x0[i]).f0.length < 9223372036854775807 →
    (∃ K, ∀ k, reveillelaw6_small.l1 (K + k) x0 c (i : Int) (j : Int) = some false) ∨
    ((∃ K, ∀ k, reveillelaw6_small.l1 (K + k) x0 c (i : Int) (j : Int) = reveillelaw6_small.l0 k x0 c (wrap64 ((i : Int) + 1))) ∧ (c ≤ 200 → ∀ s ∈ (x0[i]).f0.drop j, fits s)) := by
  intro n
  induction n with
  | zero =>
    intro j h hl
    right
    refine ⟨⟨2, fun k => ?_⟩, ?_⟩
    · rw [show 2 + k = (k + 1) + 1 from by omega, reveillelaw6_small.l1, if_pos (by omega), if_pos (by omega), rdm25 hi, if_neg (by omega), reveillelaw6_small.j2, if_neg (by decide)]
    · rw [List.drop_of_length_le (by omega)]; intro _ s hs; cases hs
  | succ n ih =>
    intro j h hl
    have hj : j < (x0[i]).f0.length := by omega
    have hd : (x0[i]).f0.drop j = ((x0[i]).f0)[j] :: (x0[i]).f0.drop (j + 1) := List.drop_eq_getElem_cons hj
    have hw : wrap64 ((j : Int) + 1) = ((j + 1 : Nat) : Int) := by rw [mg_wrap (by omega) (by omega)]; omega
    by_cases hc : c ≤ 200
    · by_cases hf : (wrap64 ((wrap64 (((((x0[i]).f0)[j]).f0.size : Int) + ((((x0[i]).f0)[j]).f1.size : Int))) + ((((x0[i]).f0)[j]).f2.size : Int))) > 500
      · left
        refine ⟨2, fun k => ?_⟩
        rw [show 2 + k = (k + 1) + 1 from by omega, reveillelaw6_small.l1, if_pos (by omega), if_pos (by omega), rdm25 hi, if_pos (by omega), decide_eq_true hc, reveillelaw6_small.j2, if_pos rfl, if_pos (by omega), if_pos (by omega), if_pos (by omega), rdm25 hi, if_pos (by omega), rdm37 hj, if_pos hf]
      · have step : ∀ k, reveillelaw6_small.l1 (k + 2) x0 c (i : Int) (j : Int) = reveillelaw6_small.l1 k x0 c (i : Int) ((j + 1 : Nat) : Int) := by
          intro k
          rw [show k + 2 = (k + 1) + 1 from by omega, reveillelaw6_small.l1, if_pos (by omega), if_pos (by omega), rdm25 hi, if_pos (by omega), decide_eq_true hc, reveillelaw6_small.j2, if_pos rfl, if_pos (by omega), if_pos (by omega), if_pos (by omega), rdm25 hi, if_pos (by omega), rdm37 hj, if_neg hf, hw]
        rcases ih (j + 1) (by omega) hl with ⟨K, hK⟩ | ⟨⟨K, hK⟩, hs⟩
        · left
          exact ⟨K + 2, fun k => by rw [show K + 2 + k = (K + k) + 2 from by omega, step, hK]⟩
        · right
          refine ⟨⟨K + 2, fun k => by rw [show K + 2 + k = (K + k) + 2 from by omega, step, hK]⟩, ?_⟩
          intro _ s hm
          rw [hd] at hm
          rcases List.mem_cons.1 hm with rfl | hm
          · exact Int.not_lt.1 hf
          · exact hs hc s hm
    · right
      refine ⟨⟨2, fun k => ?_⟩, fun h => absurd h hc⟩
      rw [show 2 + k = (k + 1) + 1 from by omega, reveillelaw6_small.l1, if_pos (by omega), if_pos (by omega), rdm25 hi, if_pos (by omega), decide_eq_false hc, reveillelaw6_small.j2, if_neg (by decide)]
theorem small_l0 (x0 : List S25) (h0 : x0.length < 9223372036854775807) (hL : ∀ f ∈ x0, f.f0.length < 576460752303423488) : ∀ (n i : Nat) (c : Int), x0.length = i + n →
    (x0.length ≤ 12 → 0 ≤ c ∧ c + n * 576460752303423488 < 9223372036854775807) →
    ∃ K r, reveillelaw6_small.l0 K x0 c (i : Int) = some r ∧ (r = true → x0.length ≤ 12 ∧ c + (((x0.drop i).flatMap (fun f => f.f0)).length : Int) ≤ 200 ∧ ∀ f ∈ x0.drop i, ∀ s ∈ f.f0, fits s) := by
  intro n
  induction n with
  | zero =>
    intro i c h hc
    by_cases hn : x0.length ≤ 12
    · refine ⟨1, decide (c ≤ 200), ?_, fun hr => ⟨hn, ?_, ?_⟩⟩
      · rw [reveillelaw6_small.l0, if_neg (by omega), if_pos (by omega)]
      · rw [List.drop_of_length_le (by omega)]; have := of_decide_eq_true hr; simpa using this
      · rw [List.drop_of_length_le (by omega)]; intro f hf; cases hf
    · exact ⟨1, false, by rw [reveillelaw6_small.l0, if_neg (by omega), if_neg (by omega)], fun hr => by cases hr⟩
  | succ n ih =>
    intro i c h hc
    have hi : i < x0.length := by omega
    have hd : x0.drop i = x0[i] :: x0.drop (i + 1) := List.drop_eq_getElem_cons hi
    have hw : wrap64 ((i : Int) + 1) = ((i + 1 : Nat) : Int) := by rw [mg_wrap (by omega) (by omega)]; omega
    have hl := hL (x0[i]) (List.getElem_mem hi)
    have hcw : x0.length ≤ 12 → wrap64 (c + ((x0[i]).f0.length : Int)) = c + ((x0[i]).f0.length : Int) := by
      intro hn
      have := hc hn
      unfold wrap64
      omega
    obtain ⟨K0, r, hr, hs⟩ := ih (i + 1) (wrap64 (c + ((x0[i]).f0.length : Int))) (by omega) (by intro hn; rw [hcw hn]; have := hc hn; omega)
    rcases small_l1 x0 i hi (wrap64 (c + ((x0[i]).f0.length : Int))) (x0[i]).f0.length 0 (by omega) (by omega) with ⟨K, hK⟩ | ⟨⟨K, hK⟩, hf⟩
    · refine ⟨K + 0 + 1, false, ?_, fun hr => by cases hr⟩
      have hK0 := hK 0
      rw [show ((0 : Nat) : Int) = 0 from rfl] at hK0
      rw [reveillelaw6_small.l0, if_pos (by omega), if_pos (by omega), rdm25 hi]; exact hK0
    · refine ⟨K + K0 + 1, r, ?_, ?_⟩
      · have hK0 := hK K0
        rw [show ((0 : Nat) : Int) = 0 from rfl, hw] at hK0
        rw [reveillelaw6_small.l0, if_pos (by omega), if_pos (by omega), rdm25 hi, hK0, hr]
      · intro hrt
        obtain ⟨hn, hsum, hall⟩ := hs hrt
        rw [hcw hn] at hsum hf
        refine ⟨hn, ?_, ?_⟩
        · rw [hd, List.flatMap_cons, List.length_append]; omega
        · intro f hm
          rw [hd] at hm
          rcases List.mem_cons.1 hm with rfl | hm
          · have := hf (by omega)
            rw [List.drop_zero] at this
            exact this
          · exact hall f hm
/-- 'small' answers; where it says yes, there are at most 12 files and 200 settings, each short. -/
theorem small_all (x0 : List S25) (h0 : x0.length < 9223372036854775807) (hL : ∀ f ∈ x0, f.f0.length < 576460752303423488) :
    ∃ k r, reveillelaw6_small.f k x0 = some r ∧ (r = true → x0.length ≤ 12 ∧ (x0.flatMap (fun f => f.f0)).length ≤ 200 ∧ ∀ f ∈ x0, ∀ s ∈ f.f0, fits s) := by
  obtain ⟨K, r, hr, hs⟩ := small_l0 x0 h0 hL x0.length 0 0 (by omega) (by intro hn; omega)
  refine ⟨K, r, ?_, fun h => ?_⟩
  · rw [reveillelaw6_small.f]; simpa using hr
  · have := hs h
    rw [List.drop_zero] at this
    exact ⟨this.1, by omega, this.2.2⟩
/-- a short setting, its texts' sizes no nearer to the int's end than any text's. -/
theorem fits_size {s : S37} (h : fits s) (h0 : s.f0.size < 3074457345618258602) (h1 : s.f1.size < 3074457345618258602) (h2 : s.f2.size < 3074457345618258602) : s.f0.size + s.f1.size + s.f2.size ≤ 500 := by
  unfold fits wrap64 at h
  omega
end Go.Proofs.YtbigbjfppaenfaaDoor.Lines
