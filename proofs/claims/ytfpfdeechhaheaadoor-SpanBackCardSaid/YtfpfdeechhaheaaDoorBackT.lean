/- What SpanBack takes by a contract of its own beside ReadsT: FormatInt, Join; the table of powers of ten. -/
import Derived.Test.YtfpfdeechhaheaaDoorReadsF0
import Derived.Test.YtfpfdeechhaheaaDoorShelfB
import Derived.Lib.LaidTab
import Derived.Lib.AppendIntMem
namespace Go.Proofs.YtfpfdeechhaheaaDoor.Reads
open Go.RowKit Go.Proofs.YtfpfdeechhaheaaDoorW.PrintWords Go.Proofs.YtfpfdeechhaheaaDoorW.PrintLast
set_option linter.unusedVariables false
set_option linter.unusedSimpArgs false
def Tab (w : World) : Prop := Lib.TabIs Tryd.prog w "internal/strconv.uint64pow10" .u64 Lib.pow10Tab
theorem Tab.below {w W : World} (h : Tab w) (hb : Below w.heap.size w W) : Tab W := by
  unfold Tab Lib.TabIs at h ⊢
  rw [← h]
  unfold World.var?
  cases hg : Tryd.prog.globalNamed "internal/strconv.uint64pow10" with
  | none => rfl
  | some g =>
    unfold World.var? at h
    rw [hg] at h
    have hlt : g < w.heap.size := by
      rcases Nat.lt_or_ge g w.heap.size with h2 | h2
      · exact h2
      · exfalso
        rw [Option.bind_some, Array.getElem?_eq_none h2] at h
        exact nomatch h
    rw [Option.bind_some, Option.bind_some, hb.block g hlt]
def GT (w : World) : Prop := GW w ∧ Tab w
theorem GT.gw {w : World} (h : GT w) : GW w := h.1
theorem GT.below {w W : World} (h : GT w) (hb : Below w.heap.size w W) : GT W := ⟨h.1.below hb, h.2.below hb⟩
def strconv_FormatInt_25.f (a0 a1 : Int) : Option ByteArray := if a1 = 10 ∧ -9223372036854775808 ≤ a0 ∧ a0 ≤ 9223372036854775807 then some ⟨(Lib.itoa a0).toArray⟩ else none
theorem strconv_FormatInt_25.calls (a0 : Int) (a1 : Int) (r : ByteArray) (w : World) (h : strconv_FormatInt_25.f a0 a1 = some r) (hG : GT w) :
    Calls Tryd.prog 25 #[.int .i64 a0, .int .i64 a1] w fun e w' => e = .returned (.string r) ∧ Below w.heap.size w w' := by
  unfold strconv_FormatInt_25.f at h
  split at h
  · rename_i h1
    obtain ⟨rfl, h2, h3⟩ := h1
    injection h with h
    subst h
    refine (Tryd.strconv_FormatInt_10 a0 h2 h3 w hG.2).mono ?_
    rintro e w' ⟨h4, k, os, rfl⟩
    refine ⟨h4, ?_⟩
    exact Lib.below_grow _ w (Nat.le_refl _) k os
  · exact nomatch h
def strings_Join.f (l0 : List ByteArray) (a1 : ByteArray) : Option ByteArray := if l0.length ≤ 140737488355328 ∧ (Lib.join (l0.map (·.data.toList)) a1.data.toList).length ≤ 140737488355328 then some ⟨(Lib.join (l0.map (·.data.toList)) a1.data.toList).toArray⟩ else none
theorem strings_Join.calls (A0 : Option Addr) (c0 : Nat) (l0 : List ByteArray) (a1 : ByteArray) (r : ByteArray) (w : World) (hr0 : Kd.C Kd.string w A0 l0.length l0) (hc0 : l0.length ≤ c0) (h : strings_Join.f l0 a1 = some r) :
    Calls Tryd.prog 26 #[.slice A0 l0.length c0, .string a1] w fun e w' => e = .returned (.string r) ∧ Below w.heap.size w w' := by
  unfold strings_Join.f at h
  split at h
  · rename_i h1
    obtain ⟨h2, h3⟩ := h1
    injection h with h
    subst h
    cases l0 with
    | nil =>
      refine (Tryd.strings_Join_none A0 c0 a1 w).mono ?_
      rintro e w' ⟨h4, rfl⟩
      exact ⟨h4, Below.refl _ _⟩
    | cons x l =>
      obtain ⟨_, _, hr⟩ := hr0
      obtain ⟨ad, rfl, hcell⟩ := hr (by simp)
      have hc : ∀ (j : Nat) y, (x :: l)[j]? = some y → w.cell? (ad.add j) = some (.string y) := by
        intro j y hj
        obtain ⟨c, _, hK, hu⟩ := hcell j y hj
        have hK : c = [.string y] := hK
        subst hK
        have := hu 0 (.string y) rfl
        have e : j * (Kd.string).sz + 0 = j := by show j * 1 + 0 = j; omega
        rw [e] at this
        exact this
      obtain ⟨bk, o, sp⟩ := ad
      have h0 := hc 0 x rfl
      have hsp : sp = none := by
        cases sp with
        | none => rfl
        | some n =>
          exfalso
          have h0 : w.cell? ⟨bk, o, some n⟩ = some (.string x) := h0
          unfold World.cell? at h0
          simp only at h0
          split at h0
          · simp at h0
          · exact nomatch h0
      subst hsp
      have hadd : ∀ j, (⟨bk, o, none⟩ : Addr).add j = ⟨bk, o + j, none⟩ := by
        intro j
        unfold Addr.add
        split
        · rename_i hj; subst hj; rfl
        · rfl
      have hc2 : ∀ (j : Nat) y, (x :: l)[j]? = some y → w.cell? ⟨bk, o + j, none⟩ = some (.string y) := by
        intro j y hj
        rw [← hadd]
        exact hc j y hj
      exact Tryd.strings_Join bk o c0 (x :: l) a1 w hc2 (World.block_lt_of_cell? w ⟨bk, o, none⟩ h0) h2 hc0 h3
  · exact nomatch h
end Go.Proofs.YtfpfdeechhaheaaDoor.Reads
