/- The plain law of ServiceStays: an automaton that may be stays one that may be. -/
import Derived.Test.YtnoddedgkgkfhaaSvcL
namespace Go.Proofs.Ytnoddedgkgkfhaa.Svc
open Go.RowKit
set_option linter.unusedVariables false
/-- what may be, but for the substate -/
structure Base (s : S) : Prop where
  pm : s.main = 0 ∨ 2 ≤ s.main
  pc : s.control = 0 ∨ 2 ≤ s.control
  ne : s.main ≠ s.control ∨ s.main = 0
  n0 : 0 ≤ s.next
  n1 : s.next ≤ 12
  st : s.starts.length ≤ 100
  so : sortB s.starts = true
  r0 : 0 ≤ s.result
  r1 : s.result ≤ 6
structure Good (e : En) (s : S) : Prop where
  b : Base s
  s1 : 1 ≤ s.sub
  s2 : s.sub ≤ 10
  p2 : s.sub = 2 → s.next < e.pre.length
  p3 : s.sub = 3 → s.next < e.sta.length
  p6 : s.sub = 6 → s.next < e.sto.length
theorem Base.add {s : S} (h : Base s) (a : S41) : Base (add s a) := ⟨h.pm, h.pc, h.ne, h.n0, h.n1, h.st, h.so, h.r0, h.r1⟩
theorem Good.add {e : En} {s : S} (h : Good e s) (a : S41) : Good e (add s a) := ⟨h.b.add a, h.s1, h.s2, h.p2, h.p3, h.p6⟩
theorem Base.sub {s : S} (h : Base s) (n : Int) : Base { s with sub := n } := ⟨h.pm, h.pc, h.ne, h.n0, h.n1, h.st, h.so, h.r0, h.r1⟩
theorem Good.kill1 {e : En} {s : S} (h : Good e s) (p g : Int) : Good e (kill1 e s p g) := by unfold Svc.kill1; split; exact h.add _; exact h
theorem Base.zero {s : S} (h : Base s) : Base { s with next := 0 } := ⟨h.pm, h.pc, h.ne, Int.le_refl 0, (show (0 : Int) ≤ 12 by decide), h.st, h.so, h.r0, h.r1⟩
theorem Base.stopping {s : S} (h : Base s) (x : Bool) : Base { s with stopping := x } := ⟨h.pm, h.pc, h.ne, h.n0, h.n1, h.st, h.so, h.r0, h.r1⟩
end Go.Proofs.Ytnoddedgkgkfhaa.Svc
