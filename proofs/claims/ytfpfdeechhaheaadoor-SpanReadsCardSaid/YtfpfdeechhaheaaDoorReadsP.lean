/- The plain law of SpanReads. -/
import Derived.Test.YtfpfdeechhaheaaDoorReadsH
namespace Go.Proofs.YtfpfdeechhaheaaDoor.Reads
open Go.RowKit Go.Proofs.YtfpfdeechhaheaaDoorW.PrintWords Go.Proofs.YtfpfdeechhaheaaDoorW.PrintLast
set_option linter.unusedVariables false
set_option linter.unusedSectionVars false
set_option linter.unusedSimpArgs false
def isdig (c : UInt8) : Bool := decide (48 ≤ c.toNat ∧ c.toNat ≤ 57)
section
variable {a0 : ByteArray} {L : List UInt8} (hL : a0.data.toList = L) (hn : L.length ≤ 5000)
include hL hn
theorem part_l0 (r : Int × ByteArray × Bool) : ∀ t, t <:+ L → (∃ k, span_part.j1 k a0 (pos L (t.dropWhile isdig)) = some r) → ∃ k, span_part.l0 k a0 (pos L t) = some r := by
  intro t
  induction t with
  | nil =>
    rintro hs ⟨k, h⟩
    refine ⟨k + 1, ?_⟩
    rw [span_part.l0, if_neg (by rw [pos_nil hL]; omega)]
    exact h
  | cons c t ih =>
    intro hs h
    have hs2 : t <:+ L := (List.suffix_cons c t).trans hs
    by_cases hb : isdig c = true
    · rw [List.dropWhile_cons_of_pos hb] at h
      obtain ⟨k, h⟩ := ih hs2 h
      have hd : 48 ≤ c.toNat ∧ c.toNat ≤ 57 := of_decide_eq_true hb
      refine ⟨k + 1, ?_⟩
      rw [span_part.l0, if_pos (pos_lt hL hs), if_pos (pos_ge hL hs), bt_pos hL hs, if_pos (by omega), if_pos (by omega), pos_next hL hn hs]
      exact h
    · rw [List.dropWhile_cons_of_neg hb] at h
      obtain ⟨k, h⟩ := h
      have hd : ¬ (48 ≤ c.toNat ∧ c.toNat ≤ 57) := fun x => hb (decide_eq_true x)
      refine ⟨k + 1, ?_⟩
      rw [span_part.l0, if_pos (pos_lt hL hs), if_pos (pos_ge hL hs), bt_pos hL hs]
      by_cases h48 : (c.toNat : Int) ≥ 48
      · rw [if_pos h48, if_neg (by omega)]; exact h
      · rw [if_neg h48]; exact h
theorem blanks_l0 : ∀ t, t <:+ L → ∃ k, reveilleref1_blanks.l0 k a0 (pos L t) = some (pos L (t.dropWhile (· == 32))) := by
  intro t
  induction t with
  | nil =>
    intro hs
    refine ⟨1, ?_⟩
    rw [reveilleref1_blanks.l0, if_neg (by rw [pos_nil hL]; omega)]
    rfl
  | cons c t ih =>
    intro hs
    by_cases hc : c = 32
    · obtain ⟨k, h⟩ := ih ((List.suffix_cons c t).trans hs)
      refine ⟨k + 1, ?_⟩
      rw [reveilleref1_blanks.l0, if_pos (pos_lt hL hs), if_pos (pos_ge hL hs), bt_pos hL hs, if_pos (by rw [hc]; rfl), pos_next hL hn hs, List.dropWhile_cons_of_pos (by rw [hc]; rfl)]
      exact h
    · refine ⟨1, ?_⟩
      have hn32 : ¬ ((c.toNat : Int) = 32) := fun h => hc (UInt8.toNat_inj.1 (by show c.toNat = 32; omega))
      rw [reveilleref1_blanks.l0, if_pos (pos_lt hL hs), if_pos (pos_ge hL hs), bt_pos hL hs, if_neg hn32, List.dropWhile_cons_of_neg (by simpa using hc)]
end
end Go.Proofs.YtfpfdeechhaheaaDoor.Reads
