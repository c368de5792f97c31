/- A slice of strings and a slice of bytes that came in. -/
import Derived.Test.YtaihipdebmcmhaaDoorWordsP
import Derived.Deep.Strs
import Derived.ChangeSlices
namespace Go.Proofs.YtaihipdebmcmhaaDoor.Splits
open Go.RowKit Go.Proofs.YtaihipdebmcmhaaDoorW.PrintWords
/-- a slice of strings leads to these -/
def IsRowS (w : World) (a : Option Addr) (len cap : Nat) (zs : List ByteArray) : Prop := zs.length = len ∧ zs.length ≤ cap ∧ Kd.C Kd.string w a zs.length zs
theorem isRowS_nil (w : World) : IsRowS w none 0 0 [] := ⟨rfl, Nat.le_refl _, rfl, by decide, fun h => absurd h (Nat.lt_irrefl _)⟩
theorem isRowS_mk (w : World) (x : Addr) (len cap : Nat) (S : Nat → ByteArray) (hl : len ≤ cap) (hm : cap ≤ maxLen) (hc : ∀ i, i < len → w.cell? (x.add i) = some (.string (S i))) : IsRowS w (some x) len cap ((List.range len).map S) := by
  have e : ((List.range len).map S).length = len := by simp
  refine ⟨e, by omega, rfl, by rw [e]; unfold maxLen at hm; omega, fun _ => ⟨x, rfl, fun j p hp => ?_⟩⟩
  have hj : j < len := by
    have := (List.getElem?_eq_some_iff.1 hp).1
    omega
  have hp' : p = S j := by
    rw [List.getElem?_map, List.getElem?_range hj] at hp
    exact (Option.some.inj hp).symm
  subst hp'
  refine ⟨[.string (S j)], rfl, rfl, fun i u hi => ?_⟩
  have hi0 : i = 0 := by
    have := (List.getElem?_eq_some_iff.1 hi).1
    simp at this; omega
  subst hi0
  have hu : u = .string (S j) := by simpa using hi.symm
  subst hu
  have e2 : j * (Kd.string).sz + 0 = j := by show j * 1 + 0 = j; omega
  rw [e2]
  exact hc j hj
/-- a slice of bytes leads to these -/
def IsRowB (w : World) (a : Option Addr) (len cap : Nat) (zs : List Int) : Prop := zs.length = len ∧ zs.length ≤ cap ∧ Kd.C (Kd.int .u8) w a zs.length zs ∧ ∀ n, n ∈ zs → 0 ≤ n ∧ n < 256
theorem isRowB_nil (w : World) : IsRowB w none 0 0 [] := ⟨rfl, Nat.le_refl _, ⟨rfl, by decide, fun h => absurd h (Nat.lt_irrefl _)⟩, fun n hn => nomatch hn⟩
theorem isRowB_mk (w : World) (x : Addr) (len cap : Nat) (zs : List Int) (hl : len ≤ cap) (hm : cap ≤ maxLen) (hz : zs.length = cap) (hc : ∀ i, i < zs.length → w.cell? (x.add i) = some (.int .u8 (zs.getD i 0))) (hw : ∀ n ∈ zs, (Lit.int .u8 n).wf = true) :
    IsRowB w (some x) len cap (zs.take len) := by
  have e : (zs.take len).length = len := by rw [List.length_take]; omega
  refine ⟨e, by omega, ⟨rfl, by rw [e]; unfold maxLen at hm; omega, fun _ => ⟨x, rfl, fun j p hp => ?_⟩⟩, fun n hn => ?_⟩
  · have hj : j < len := by
      have := (List.getElem?_eq_some_iff.1 hp).1
      omega
    have hp' : zs[j]? = some p := by
      rw [List.getElem?_take_of_lt hj] at hp; exact hp
    refine ⟨[.int .u8 p], rfl, rfl, fun i u hi => ?_⟩
    have hi0 : i = 0 := by
      have := (List.getElem?_eq_some_iff.1 hi).1
      simp at this; omega
    subst hi0
    have hu : u = .int .u8 p := by simpa using hi.symm
    subst hu
    have e2 : j * (Kd.int .u8).sz + 0 = j := by show j * 1 + 0 = j; omega
    rw [e2, hc j (by omega), List.getD_eq_getElem?_getD, hp']; rfl
  · have := hw n (List.mem_of_mem_take hn)
    simp [Lit.wf, IntKind.min, IntKind.max, IntKind.signed, IntKind.bits] at this
    omega
end Go.Proofs.YtaihipdebmcmhaaDoor.Splits
