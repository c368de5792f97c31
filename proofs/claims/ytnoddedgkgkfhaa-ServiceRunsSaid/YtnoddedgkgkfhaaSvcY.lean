/- The plain law of ServiceLimits: in any window of its interval it begins at most as often as its burst allows. -/
import Derived.Test.YtnoddedgkgkfhaaSvcN
namespace Go.Proofs.Ytnoddedgkgkfhaa.Svc
open Go.RowKit
set_option linter.unusedVariables false
set_option linter.unusedSimpArgs false
/-! what stays of the row of starts -/
@[simp] theorem add_st (s : S) (a : S41) : (add s a).starts = s.starts := rfl
@[simp] theorem result_st (s : S) (r : Int) : (resultS s r).starts = s.starts := rfl
@[simp] theorem timer_st (s : S) (r : Int) : (timerS s r).starts = s.starts := rfl
@[simp] theorem idle_st (s : S) : (idleS s).starts = s.starts := rfl
@[simp] theorem watch_st (e : En) (s : S) (t : Int) : (watchS e s t).starts = s.starts := by unfold watchS; split <;> rfl
@[simp] theorem spoils_st (s : S) (r : Int) : (spoilsS s r).starts = s.starts := by unfold spoilsS; split <;> rfl
@[simp] theorem kill1_st (e : En) (s : S) (p g : Int) : (kill1 e s p g).starts = s.starts := by unfold kill1; split <;> rfl
@[simp] theorem kills_st (e : En) (s : S) (g : Int) : (killsS e s g).starts = s.starts := by unfold killsS; split <;> simp
@[simp] theorem ends_st (e : En) (s : S) : (endsS e s).starts = s.starts := by
  unfold endsS; dsimp only; split <;> (first | (simp; done) | (split <;> (first | (simp; done) | (split <;> simp))))
@[simp] theorem terms_st (e : En) (s : S) (r : Int) : (termsS e s r).starts = s.starts := by
  unfold termsS termsG; split <;> simp
@[simp] theorem fails_st (e : En) (s : S) (r : Int) : (failsS e s r).starts = s.starts := by unfold failsS; simp
@[simp] theorem started_st (e : En) (s : S) : (startedS e s).starts = s.starts := by
  unfold startedS startedG; split <;> (first | (simp; done) | (split <;> simp))
@[simp] theorem spawns_st (e : En) (s : S) (sub : Int) (l : List ByteArray) (w : Int) (b : Bool) : (spawnsS e s sub l w b).starts = s.starts := by
  unfold spawnsS; dsimp only; split <;> simp
@[simp] theorem launches_st (e : En) (s : S) : (launchesS e s).starts = s.starts := by unfold launchesS; split <;> simp
@[simp] theorem prepares_st (e : En) (s : S) : (preparesS e s).starts = s.starts := by unfold preparesS; split <;> simp
@[simp] theorem stops_st (e : En) (s : S) : (stopsS e s).starts = s.starts := by unfold stopsS; split <;> simp
@[simp] theorem stop_st (e : En) (s : S) : (stopS e s).starts = s.starts := by unfold stopS; simp [apply_ite S.starts]
@[simp] theorem spawned_st (e : En) (s : S) : (spawnedS e s).starts = s.starts := by unfold spawnedS spawnedG; simp [apply_ite S.starts]
@[simp] theorem controlled_st (e : En) (s : S) : (controlledS e s).starts = s.starts := by unfold controlledS; simp [apply_ite S.starts]
@[simp] theorem mained_st (e : En) (s : S) : (mainedS e s).starts = s.starts := by
  unfold mainedS; split
  · split <;> simp
  · split
    · simp; split <;> simp
    · rfl
@[simp] theorem over_st (e : En) (s : S) (x : Bool) : (overS e s x).starts = s.starts := by unfold overS; split <;> simp
@[simp] theorem exit_st (e : En) (s : S) : (exitS e s).starts = s.starts := by unfold exitS; simp [apply_ite S.starts]
@[simp] theorem empty_st (e : En) (s : S) : (emptyS e s).starts = s.starts := by unfold emptyS; simp [apply_ite S.starts]
@[simp] theorem note_st (e : En) (s : S) : (noteS e s).starts = s.starts := by unfold noteS; simp [apply_ite S.starts]
/-- a start is told -/
def tellsB (e : En) (s : S) : Bool := e.kind == 1 && (s.sub == 1 || s.sub == 9 || s.sub == 10) || e.kind == 5 && s.sub == 10
theorem told_quiet {e : En} {s : S} (h : tellsB e s = false) : (toldS e s).1.starts = s.starts := by
  unfold tellsB at h
  simp only [Bool.or_eq_false_iff, Bool.and_eq_false_iff] at h
  obtain ⟨ha, hb⟩ := h
  unfold toldS
  split
  · rename_i h1
    rcases ha with ha | ha
    · rw [ha] at h1; cases h1
    · unfold startS
      rw [ha.1.1, ha.1.2, ha.2]
      simp only [Bool.or_false, Bool.false_eq_true, if_false]
      simp [apply_ite S.starts]
  · split
    · simp
    · split
      · simp
      · split
        · simp
        · split
          · rename_i h5
            rcases hb with hb | hb
            · rw [hb] at h5; cases h5
            · show (timeS e s).starts = _
              unfold timeS
              rw [hb]
              simp only [Bool.false_eq_true, if_false]
              simp [apply_ite S.starts]
          · split
            · show (if _ then _ else _ : S).starts = _
              split <;> simp
            · split
              · simp
              · split
                · simp
                · rfl
theorem told_tells {e : En} {s : S} (h : tellsB e s = true) : toldS e s = (beginsS e s, true) := by
  unfold tellsB at h
  simp only [Bool.or_eq_true, Bool.and_eq_true, beq_iff_eq] at h
  rcases h with ⟨h1, h2⟩ | ⟨h1, h2⟩
  · unfold toldS
    rw [h1, if_pos (by decide)]
    unfold startS
    rw [if_pos (by simp only [Bool.or_eq_true, beq_iff_eq]; exact h2)]
  · unfold toldS
    rw [h1]
    simp only [show ((5 : Int) == 1) = false from by decide, show ((5 : Int) == 2) = false from by decide, show ((5 : Int) == 3) = false from by decide, show ((5 : Int) == 4) = false from by decide, show ((5 : Int) == 5) = true from by decide, Bool.false_eq_true, if_false, if_true]
    unfold timeS startS
    rw [h2]
    simp only [show ((10 : Int) == 2) = false from by decide, show ((10 : Int) == 3) = false from by decide, show ((10 : Int) == 6) = false from by decide, show ((10 : Int) == 7) = false from by decide, show ((10 : Int) == 8) = false from by decide, show ((10 : Int) == 10) = true from by decide, Bool.or_false, Bool.false_eq_true, if_false, if_true, Bool.or_true]
structure LimI (I now : Int) (begun starts : List Int) : Prop where
  d : ∃ d, begun = d ++ starts ∧ ∀ x, x ∈ d → x + I ≤ now
  so : begun.Pairwise (· ≤ ·)
  bd : ∀ x, x ∈ begun → 0 ≤ x ∧ x ≤ now
def Sp (I : Int) (b : Nat) (l : List Int) : Prop := ∀ i x y, l[i]? = some x → l[i + b]? = some y → I ≤ y - x
theorem LimI.starts {I now : Int} {begun starts : List Int} (h : LimI I now begun starts) : starts.length ≤ begun.length ∧ starts.Pairwise (· ≤ ·) ∧ ∀ x, x ∈ starts → 0 ≤ x ∧ x ≤ now := by
  obtain ⟨d, hd, _⟩ := h.d
  have h1 := h.so
  have h2 := h.bd
  rw [hd] at h1 h2 ⊢
  refine ⟨by rw [List.length_append]; omega, (List.pairwise_append.1 h1).2.1, fun x hx => h2 x (List.mem_append_right _ hx)⟩
end Go.Proofs.Ytnoddedgkgkfhaa.Svc
