/- known; Step whole; what stays, said of Step. -/
import Derived.Test.YtnoddedgkgkfhaaRows
import Derived.Test.YtnoddedgkgkfhaaSvcN
import Derived.Test.YtnoddedgkgkfhaaSvcP
import Derived.Test.YtnoddedgkgkfhaaSvcV
namespace Go.Proofs.Ytnoddedgkgkfhaa.Svc
open Go.Ev Go.RowKit Go.Proofs.YtnoddedgkgkfhaaW.PrintWords Go.Proofs.YtnoddedgkgkfhaaW.PrintLast
set_option linter.unusedVariables false
theorem kn : isTrue (@runR ⟨[], [], noSum⟩ Try.prog 100000 14 [] [] 0) = true := by decide +kernel
set_option maxRecDepth 100000 in
theorem known_calls (w : World) (hsz : Try.prog.globals.size ≤ w.heap.size) : Calls Try.prog 14 #[] w fun e w' => e = .returned (.bool true) ∧ Below w.heap.size w w' := by
  obtain ⟨E, hE⟩ := envOf [] [] noSum [] .nil (by intro e he; simp at he)
  letI : Facts := ⟨[], [], noSum⟩
  letI : Env := E
  exact glob_calls noSums Try.checked.mixed hsz (by intro x hx; simp at hx) (enter_of Try.func14 (by kernel_rfl) (by kernel_rfl)) (fun μ => .nil) kn
/-- the same unit, told another thing -/
def inE (e : En) (x : S38) : En := { e with kind := x.f0, pid := x.f1, status := x.f2, text := x.f3, now := x.f4 }
theorem unitV_inE (e : En) (x : S38) : unitV (inE e x) = unitV e := rfl
theorem Good.inE {e : En} {s : S} (h : Good e s) (x : S38) : Good (inE e x) s := ⟨h.b, h.s1, h.s2, h.p2, h.p3, h.p6⟩
def s0 : S := ⟨1, 0, 0, 0, [], false, 0, false, []⟩
theorem RowA.form {W : World} {vs : Value} {xs : List Int} (h : RowA W vs xs) : ∃ A n c, vs = .slice A n c := by
  rcases h with ⟨rfl, _⟩ | ⟨ad, c, rfl, _⟩
  · exact ⟨_, _, _, rfl⟩
  · exact ⟨_, _, _, rfl⟩
theorem step_calls {W : World} {e : En} {s : S} (u : U0) (hu : e.o = mkO u) (A : Option Addr) (n c : Nat) (hr : RowA W (.slice A n c) s.starts) (hn : s.starts.length ≤ 100000)
    (hp : Kd.C Kd.string W e.Apre e.pre.length e.pre ∧ Kd.C Kd.string W e.Asta e.sta.length e.sta ∧ Kd.C Kd.string W e.Asto e.sto.length e.sto) :
    Calls Try.prog 18 #[unitV e, svcV s (.slice A n c), inV e] W fun e' W' => ∃ vs' vo', e' = .returned (.tuple #[svcV (stepS u e s).1 vs', vo', .int .i64 (stepS u e s).2.2]) ∧ RowA W' vs' (stepS u e s).1.starts ∧ W'.ownsRow W.heap.size 41 6 vo' (stepS u e s).2.1.length ((stepS u e s).2.1.flatMap cellsA) ∧ Below W.heap.size W W' ∧ Fresh W A vs' := by
  cases hb : isB u.kind u.load e s with
  | true => exact step_good u hu A n c hr hn hb hp
  | false =>
    refine (step_bad u hu A n c hr hn hb).mono ?_
    rintro e' W' ⟨rfl, hB⟩
    have hst : stepS u e s = (s, [], 200) := by unfold stepS; rw [if_neg (by rw [hb]; exact Bool.false_ne_true)]
    rw [hst]
    exact ⟨_, _, rfl, hr.below hB, World.ownsRow_nil .., hB, fun ad n c e => .inr (by injection e)⟩
theorem inV_inE (e : En) (x : S38) : inV (inE e x) = .agg #[.int .i64 x.f0, .int .i64 x.f1, .int .i64 x.f2, .string x.f3, .int .i64 x.f4] := rfl
end Go.Proofs.Ytnoddedgkgkfhaa.Svc
