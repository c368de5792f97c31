/- A slice of strings that came in. -/
import Derived.Test.YtaihipdebmcmhaaDoorQuotesP
import Derived.Deep.Strs
import Derived.ChangeSlices
namespace Go.Proofs.YtaihipdebmcmhaaDoor.Splits
open Go.RowKit Go.Proofs.YtaihipdebmcmhaaDoorW.PrintWords
/-- a slice of strings leads to these -/
def IsRowS (w : World) (a : Option Addr) (len cap : Nat) (zs : List ByteArray) : Prop := zs.length = len ∧ zs.length ≤ cap ∧ Kd.C Kd.string w a zs.length zs
theorem isRowS_nil (w : World) : IsRowS w none 0 0 [] := ⟨rfl, Nat.le_refl _, rfl, by decide, fun h => absurd h (Nat.lt_irrefl _)⟩
theorem isRowS_mk (w : World) (x : Addr) (len cap : Nat) (S : Nat → ByteArray) (hl : len ≤ cap) (hm : cap ≤ maxLen) (hc : ∀ i, i < len → w.cell? (x.add i) = some (.string (S i))) : IsRowS w (some x) len cap ((List.range len).map S) := by
  have e : ((List.range len).map S).length = len := by simp
  refine ⟨e, by omega, rfl, by rw [e]; unfold maxLen at hm; omega, fun _ => ⟨x, rfl, fun j p hp => ?_⟩⟩
  have hj : j < len := by
    have := (List.getElem?_eq_some_iff.1 hp).1
    omega
  have hp' : p = S j := by
    rw [List.getElem?_map, List.getElem?_range hj] at hp
    exact (Option.some.inj hp).symm
  subst hp'
  refine ⟨[.string (S j)], rfl, rfl, fun i u hi => ?_⟩
  have hi0 : i = 0 := by
    have := (List.getElem?_eq_some_iff.1 hi).1
    simp at this; omega
  subst hi0
  have hu : u = .string (S j) := by simpa using hi.symm
  subst hu
  have e2 : j * (Kd.string).sz + 0 = j := by show j * 1 + 0 = j; omega
  rw [e2]
  exact hc j hj
end Go.Proofs.YtaihipdebmcmhaaDoor.Splits
