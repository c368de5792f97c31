/- What an automaton does when a process began or ended. -/
import Derived.Test.YtnoddedgkgkfhaaSvcH
namespace Go.Proofs.Ytnoddedgkgkfhaa.Svc
open Go.RowKit Go.Proofs.YtnoddedgkgkfhaaW.PrintWords Go.Proofs.YtnoddedgkgkfhaaW.PrintLast
attribute [local go_sem] Oper.semAt_some
set_option linter.unusedVariables false
def badP (e : En) (s : S) : Bool := decide (e.pid < 2) || e.pid == s.main || e.pid == s.control
def spawnedG (e : En) (s : S) : S :=
  if badP e s = true then (if (s.sub == 2 || s.sub == 3) = true then failsS e s 2 else if (s.sub == 6) = true then termsS e s 2 else s)
  else if (s.sub == 2 || s.sub == 6 || s.sub == 3 && e.typ == 3) = true then { s with control := e.pid }
  else if (s.sub == 3) = true then (if (e.typ == 1 || e.typ == 2) = true then startedS e { s with main := e.pid } else { s with main := e.pid })
  else s
def spawnedS (e : En) (s : S) : S := if s.waiting = true then spawnedG e { s with waiting := false } else s
def controlledS (e : En) (s : S) : S :=
  if (s.sub == 2) = true then (if (e.status == 0) = true then preparesS e { s with control := 0, next := s.next + 1 } else failsS e { s with control := 0 } 2)
  else if (s.sub == 3) = true then (if (e.status == 0) = true then startedS e { s with control := 0 } else failsS e { s with control := 0 } 2)
  else if (s.sub == 6) = true then stopsS e { s with control := 0, next := s.next + 1 }
  else { s with control := 0 }
def mainedS (e : En) (s : S) : S :=
  if (s.sub == 3) = true then (if (e.status == 0 && e.typ == 4) = true then launchesS e { s with main := 0, next := s.next + 1 } else failsS e { s with main := 0 } 2)
  else if (s.sub == 4) = true then stopsS e { (if (e.status == 0) = true then { s with main := 0 } else spoilsS { s with main := 0 } 2) with next := 0 }
  else { s with main := 0 }
def overS (e : En) (s : S) (ending : Bool) : S := if (ending && aloneS e s) = true then endsS e s else s
variable {w0 W : World} {b : Nat} {e : En} {s : S}
set_option maxRecDepth 100000
set_option maxHeartbeats 8000000
theorem controlled_calls (hk : Ok w0 b e) (hI : Inv w0 W b e s) (h1 : 1 ≤ s.sub) (h2 : s.sub ≤ 10) (hn0 : 0 ≤ s.next) (hn12 : s.next ≤ 12) (hn : s.out.length ≤ 930) :
    Calls Try.prog 53 #[.pointer (some ⟨b, 0, none⟩)] W fun e' W' => e' = .returned (.tuple #[]) ∧ Inv w0 W' b e (controlledS e s) := by
  obtain ⟨sub, main, control, next, starts, stopping, result, waiting, out⟩ := s
  dsimp only at *
  have hl4 : out.length ≤ 940 := Nat.le_trans hn (by decide)
  have hl6 : out.length ≤ 960 := Nat.le_trans hn (by decide)
  have hl7 : out.length ≤ 970 := Nat.le_trans hn (by decide)
  have hn1 : 0 ≤ next + 1 := by omega
  rcases sub_cases h1 h2 with rfl | rfl | rfl | rfl | rfl | rfl | rfl | rfl | rfl | rfl
  · clear h1 h2
    obtain ⟨vs0, vo0, hc0⟩ := hI.cs
    have fr0 := hc0.fr
    have k330 : W.cell? ⟨b, 33, none⟩ = some (.int .i64 1) := hc0.c33
    have k350 : W.cell? ⟨b, 35, none⟩ = some (.int .i64 control) := hc0.c35
    have k360 : W.cell? ⟨b, 36, none⟩ = some (.int .i64 next) := hc0.c36
    have k430 : W.cell? ⟨b, 43, none⟩ = some (.int .i64 e.status) := hc0.c43
    clear hc0
    go_enter Try.func53, Try.ntmps53
    go_wp2
    first | go_end0 | ((try simp only [Exit.inBlock, Exit.then]); refine bodyPost_ret (results_none rfl _ _ _) rfl ?_)
    exact ⟨rfl, hI.set35 0⟩
  · clear h1 h2
    obtain ⟨vs0, vo0, hc0⟩ := hI.cs
    have fr0 := hc0.fr
    have k330 : W.cell? ⟨b, 33, none⟩ = some (.int .i64 2) := hc0.c33
    have k350 : W.cell? ⟨b, 35, none⟩ = some (.int .i64 control) := hc0.c35
    have k360 : W.cell? ⟨b, 36, none⟩ = some (.int .i64 next) := hc0.c36
    have k430 : W.cell? ⟨b, 43, none⟩ = some (.int .i64 e.status) := hc0.c43
    clear hc0
    cases hw : (e.status == 0) with
    | true =>
      unfold controlledS
      rw [hw]
      go_enter Try.func53, Try.ntmps53
      go_wp2_with (first | (go_at_call 66; refine (prepares_calls hk ((hI.set35 0).set36 (next + 1)) hn1 hl4).mono ?_; rintro e' w1 ⟨rfl, hI1⟩))
      first | go_end0 | ((try simp only [Exit.inBlock, Exit.then]); refine bodyPost_ret (results_none rfl _ _ _) rfl ?_)
      exact ⟨rfl, hI1⟩
    | false =>
      unfold controlledS
      rw [hw]
      go_enter Try.func53, Try.ntmps53
      go_wp2_with (first | (go_at_call 59; refine (fails_calls (hI.set35 0) 2 hl7).mono ?_; rintro e' w1 ⟨rfl, hI1⟩))
      first | go_end0 | ((try simp only [Exit.inBlock, Exit.then]); refine bodyPost_ret (results_none rfl _ _ _) rfl ?_)
      exact ⟨rfl, hI1⟩
  · clear h1 h2
    obtain ⟨vs0, vo0, hc0⟩ := hI.cs
    have fr0 := hc0.fr
    have k330 : W.cell? ⟨b, 33, none⟩ = some (.int .i64 3) := hc0.c33
    have k350 : W.cell? ⟨b, 35, none⟩ = some (.int .i64 control) := hc0.c35
    have k360 : W.cell? ⟨b, 36, none⟩ = some (.int .i64 next) := hc0.c36
    have k430 : W.cell? ⟨b, 43, none⟩ = some (.int .i64 e.status) := hc0.c43
    clear hc0
    cases hw : (e.status == 0) with
    | true =>
      unfold controlledS
      rw [hw]
      go_enter Try.func53, Try.ntmps53
      go_wp2_with (first | (go_at_call 56; refine (started_calls (hI.set35 0) hl6).mono ?_; rintro e' w1 ⟨rfl, hI1⟩))
      first | go_end0 | ((try simp only [Exit.inBlock, Exit.then]); refine bodyPost_ret (results_none rfl _ _ _) rfl ?_)
      exact ⟨rfl, hI1⟩
    | false =>
      unfold controlledS
      rw [hw]
      go_enter Try.func53, Try.ntmps53
      go_wp2_with (first | (go_at_call 59; refine (fails_calls (hI.set35 0) 2 hl7).mono ?_; rintro e' w1 ⟨rfl, hI1⟩))
      first | go_end0 | ((try simp only [Exit.inBlock, Exit.then]); refine bodyPost_ret (results_none rfl _ _ _) rfl ?_)
      exact ⟨rfl, hI1⟩
  · clear h1 h2
    obtain ⟨vs0, vo0, hc0⟩ := hI.cs
    have fr0 := hc0.fr
    have k330 : W.cell? ⟨b, 33, none⟩ = some (.int .i64 4) := hc0.c33
    have k350 : W.cell? ⟨b, 35, none⟩ = some (.int .i64 control) := hc0.c35
    have k360 : W.cell? ⟨b, 36, none⟩ = some (.int .i64 next) := hc0.c36
    have k430 : W.cell? ⟨b, 43, none⟩ = some (.int .i64 e.status) := hc0.c43
    clear hc0
    go_enter Try.func53, Try.ntmps53
    go_wp2
    first | go_end0 | ((try simp only [Exit.inBlock, Exit.then]); refine bodyPost_ret (results_none rfl _ _ _) rfl ?_)
    exact ⟨rfl, hI.set35 0⟩
  · clear h1 h2
    obtain ⟨vs0, vo0, hc0⟩ := hI.cs
    have fr0 := hc0.fr
    have k330 : W.cell? ⟨b, 33, none⟩ = some (.int .i64 5) := hc0.c33
    have k350 : W.cell? ⟨b, 35, none⟩ = some (.int .i64 control) := hc0.c35
    have k360 : W.cell? ⟨b, 36, none⟩ = some (.int .i64 next) := hc0.c36
    have k430 : W.cell? ⟨b, 43, none⟩ = some (.int .i64 e.status) := hc0.c43
    clear hc0
    go_enter Try.func53, Try.ntmps53
    go_wp2
    first | go_end0 | ((try simp only [Exit.inBlock, Exit.then]); refine bodyPost_ret (results_none rfl _ _ _) rfl ?_)
    exact ⟨rfl, hI.set35 0⟩
  · clear h1 h2
    obtain ⟨vs0, vo0, hc0⟩ := hI.cs
    have fr0 := hc0.fr
    have k330 : W.cell? ⟨b, 33, none⟩ = some (.int .i64 6) := hc0.c33
    have k350 : W.cell? ⟨b, 35, none⟩ = some (.int .i64 control) := hc0.c35
    have k360 : W.cell? ⟨b, 36, none⟩ = some (.int .i64 next) := hc0.c36
    have k430 : W.cell? ⟨b, 43, none⟩ = some (.int .i64 e.status) := hc0.c43
    clear hc0
    go_enter Try.func53, Try.ntmps53
    go_wp2_with (first | (go_at_call 52; refine (stops_calls hk ((hI.set35 0).set36 (next + 1)) hn1 hl7).mono ?_; rintro e' w1 ⟨rfl, hI1⟩))
    first | go_end0 | ((try simp only [Exit.inBlock, Exit.then]); refine bodyPost_ret (results_none rfl _ _ _) rfl ?_)
    exact ⟨rfl, hI1⟩
  · clear h1 h2
    obtain ⟨vs0, vo0, hc0⟩ := hI.cs
    have fr0 := hc0.fr
    have k330 : W.cell? ⟨b, 33, none⟩ = some (.int .i64 7) := hc0.c33
    have k350 : W.cell? ⟨b, 35, none⟩ = some (.int .i64 control) := hc0.c35
    have k360 : W.cell? ⟨b, 36, none⟩ = some (.int .i64 next) := hc0.c36
    have k430 : W.cell? ⟨b, 43, none⟩ = some (.int .i64 e.status) := hc0.c43
    clear hc0
    go_enter Try.func53, Try.ntmps53
    go_wp2
    first | go_end0 | ((try simp only [Exit.inBlock, Exit.then]); refine bodyPost_ret (results_none rfl _ _ _) rfl ?_)
    exact ⟨rfl, hI.set35 0⟩
  · clear h1 h2
    obtain ⟨vs0, vo0, hc0⟩ := hI.cs
    have fr0 := hc0.fr
    have k330 : W.cell? ⟨b, 33, none⟩ = some (.int .i64 8) := hc0.c33
    have k350 : W.cell? ⟨b, 35, none⟩ = some (.int .i64 control) := hc0.c35
    have k360 : W.cell? ⟨b, 36, none⟩ = some (.int .i64 next) := hc0.c36
    have k430 : W.cell? ⟨b, 43, none⟩ = some (.int .i64 e.status) := hc0.c43
    clear hc0
    go_enter Try.func53, Try.ntmps53
    go_wp2
    first | go_end0 | ((try simp only [Exit.inBlock, Exit.then]); refine bodyPost_ret (results_none rfl _ _ _) rfl ?_)
    exact ⟨rfl, hI.set35 0⟩
  · clear h1 h2
    obtain ⟨vs0, vo0, hc0⟩ := hI.cs
    have fr0 := hc0.fr
    have k330 : W.cell? ⟨b, 33, none⟩ = some (.int .i64 9) := hc0.c33
    have k350 : W.cell? ⟨b, 35, none⟩ = some (.int .i64 control) := hc0.c35
    have k360 : W.cell? ⟨b, 36, none⟩ = some (.int .i64 next) := hc0.c36
    have k430 : W.cell? ⟨b, 43, none⟩ = some (.int .i64 e.status) := hc0.c43
    clear hc0
    go_enter Try.func53, Try.ntmps53
    go_wp2
    first | go_end0 | ((try simp only [Exit.inBlock, Exit.then]); refine bodyPost_ret (results_none rfl _ _ _) rfl ?_)
    exact ⟨rfl, hI.set35 0⟩
  · clear h1 h2
    obtain ⟨vs0, vo0, hc0⟩ := hI.cs
    have fr0 := hc0.fr
    have k330 : W.cell? ⟨b, 33, none⟩ = some (.int .i64 10) := hc0.c33
    have k350 : W.cell? ⟨b, 35, none⟩ = some (.int .i64 control) := hc0.c35
    have k360 : W.cell? ⟨b, 36, none⟩ = some (.int .i64 next) := hc0.c36
    have k430 : W.cell? ⟨b, 43, none⟩ = some (.int .i64 e.status) := hc0.c43
    clear hc0
    go_enter Try.func53, Try.ntmps53
    go_wp2
    first | go_end0 | ((try simp only [Exit.inBlock, Exit.then]); refine bodyPost_ret (results_none rfl _ _ _) rfl ?_)
    exact ⟨rfl, hI.set35 0⟩
theorem mained_calls (hk : Ok w0 b e) (hI : Inv w0 W b e s) (h1 : 1 ≤ s.sub) (h2 : s.sub ≤ 10) (hn0 : 0 ≤ s.next) (hn12 : s.next ≤ 12) (hn : s.out.length ≤ 930) :
    Calls Try.prog 55 #[.pointer (some ⟨b, 0, none⟩)] W fun e' W' => e' = .returned (.tuple #[]) ∧ Inv w0 W' b e (mainedS e s) := by
  obtain ⟨sub, main, control, next, starts, stopping, result, waiting, out⟩ := s
  dsimp only at *
  have hl5 : out.length ≤ 950 := Nat.le_trans hn (by decide)
  have hl7 : out.length ≤ 970 := Nat.le_trans hn (by decide)
  have hn1 : 0 ≤ next + 1 := by omega
  rcases sub_cases h1 h2 with rfl | rfl | rfl | rfl | rfl | rfl | rfl | rfl | rfl | rfl
  · clear h1 h2
    obtain ⟨vs0, vo0, hc0⟩ := hI.cs
    have fr0 := hc0.fr
    have k330 : W.cell? ⟨b, 33, none⟩ = some (.int .i64 1) := hc0.c33
    have k340 : W.cell? ⟨b, 34, none⟩ = some (.int .i64 main) := hc0.c34
    have k360 : W.cell? ⟨b, 36, none⟩ = some (.int .i64 next) := hc0.c36
    have k430 : W.cell? ⟨b, 43, none⟩ = some (.int .i64 e.status) := hc0.c43
    have k110 : W.cell? ⟨b, 11, none⟩ = some (.int .i64 e.typ) := hc0.c11
    clear hc0
    go_enter Try.func55, Try.ntmps55
    go_wp2
    first | go_end0 | ((try simp only [Exit.inBlock, Exit.then]); refine bodyPost_ret (results_none rfl _ _ _) rfl ?_)
    exact ⟨rfl, hI.set34 0⟩
  · clear h1 h2
    obtain ⟨vs0, vo0, hc0⟩ := hI.cs
    have fr0 := hc0.fr
    have k330 : W.cell? ⟨b, 33, none⟩ = some (.int .i64 2) := hc0.c33
    have k340 : W.cell? ⟨b, 34, none⟩ = some (.int .i64 main) := hc0.c34
    have k360 : W.cell? ⟨b, 36, none⟩ = some (.int .i64 next) := hc0.c36
    have k430 : W.cell? ⟨b, 43, none⟩ = some (.int .i64 e.status) := hc0.c43
    have k110 : W.cell? ⟨b, 11, none⟩ = some (.int .i64 e.typ) := hc0.c11
    clear hc0
    go_enter Try.func55, Try.ntmps55
    go_wp2
    first | go_end0 | ((try simp only [Exit.inBlock, Exit.then]); refine bodyPost_ret (results_none rfl _ _ _) rfl ?_)
    exact ⟨rfl, hI.set34 0⟩
  · clear h1 h2
    obtain ⟨vs0, vo0, hc0⟩ := hI.cs
    have fr0 := hc0.fr
    have k330 : W.cell? ⟨b, 33, none⟩ = some (.int .i64 3) := hc0.c33
    have k340 : W.cell? ⟨b, 34, none⟩ = some (.int .i64 main) := hc0.c34
    have k360 : W.cell? ⟨b, 36, none⟩ = some (.int .i64 next) := hc0.c36
    have k430 : W.cell? ⟨b, 43, none⟩ = some (.int .i64 e.status) := hc0.c43
    have k110 : W.cell? ⟨b, 11, none⟩ = some (.int .i64 e.typ) := hc0.c11
    clear hc0
    cases hw : (e.status == 0) with
    | false =>
      unfold mainedS
      rw [hw]
      go_enter Try.func55, Try.ntmps55
      go_wp2_with (first | (go_at_call 59; refine (fails_calls (hI.set34 0) 2 hl7).mono ?_; rintro e' w1 ⟨rfl, hI1⟩))
      first | go_end0 | ((try simp only [Exit.inBlock, Exit.then]); refine bodyPost_ret (results_none rfl _ _ _) rfl ?_)
      exact ⟨rfl, hI1⟩
    | true =>
      cases ht : (e.typ == 4) with
      | false =>
        unfold mainedS
        rw [hw, ht]
        go_enter Try.func55, Try.ntmps55
        go_wp2_with (first | (go_at_call 59; refine (fails_calls (hI.set34 0) 2 hl7).mono ?_; rintro e' w1 ⟨rfl, hI1⟩))
        first | go_end0 | ((try simp only [Exit.inBlock, Exit.then]); refine bodyPost_ret (results_none rfl _ _ _) rfl ?_)
        exact ⟨rfl, hI1⟩
      | true =>
        unfold mainedS
        rw [hw, ht]
        go_enter Try.func55, Try.ntmps55
        go_wp2_with (first | (go_at_call 69; refine (launches_calls hk ((hI.set34 0).set36 (next + 1)) hn1 hl5).mono ?_; rintro e' w1 ⟨rfl, hI1⟩))
        first | go_end0 | ((try simp only [Exit.inBlock, Exit.then]); refine bodyPost_ret (results_none rfl _ _ _) rfl ?_)
        exact ⟨rfl, hI1⟩
  · clear h1 h2
    obtain ⟨vs0, vo0, hc0⟩ := hI.cs
    have fr0 := hc0.fr
    have k330 : W.cell? ⟨b, 33, none⟩ = some (.int .i64 4) := hc0.c33
    have k340 : W.cell? ⟨b, 34, none⟩ = some (.int .i64 main) := hc0.c34
    have k360 : W.cell? ⟨b, 36, none⟩ = some (.int .i64 next) := hc0.c36
    have k430 : W.cell? ⟨b, 43, none⟩ = some (.int .i64 e.status) := hc0.c43
    have k110 : W.cell? ⟨b, 11, none⟩ = some (.int .i64 e.typ) := hc0.c11
    clear hc0
    cases hw : (e.status == 0) with
    | true =>
      unfold mainedS
      rw [hw]
      go_enter Try.func55, Try.ntmps55
      go_wp2_with (first | (go_at_call 52; refine (stops_calls hk ((hI.set34 0).set36 0) (Int.le_refl 0) hl7).mono ?_; rintro e' w1 ⟨rfl, hI1⟩))
      first | go_end0 | ((try simp only [Exit.inBlock, Exit.then]); refine bodyPost_ret (results_none rfl _ _ _) rfl ?_)
      exact ⟨rfl, hI1⟩
    | false =>
      unfold mainedS
      rw [hw]
      go_enter Try.func55, Try.ntmps55
      go_wp2_with (first | (go_at_call 62; refine (spoils_calls (hI.set34 0) 2).mono ?_; rintro e' w1 ⟨rfl, hI1⟩; obtain ⟨vs1, vo1, hc1⟩ := hI1.cs; have fr1 := hc1.fr; have k361 := hc1.c36; clear hc1) | (go_at_call 52; refine (stops_calls hk (hI1.set36 0) (Int.le_refl 0) (by show (spoilsS _ 2).out.length ≤ 970; rw [spoils_len]; exact hl7)).mono ?_; rintro e' w2 ⟨rfl, hI2⟩))
      first | go_end0 | ((try simp only [Exit.inBlock, Exit.then]); refine bodyPost_ret (results_none rfl _ _ _) rfl ?_)
      exact ⟨rfl, hI2⟩
  · clear h1 h2
    obtain ⟨vs0, vo0, hc0⟩ := hI.cs
    have fr0 := hc0.fr
    have k330 : W.cell? ⟨b, 33, none⟩ = some (.int .i64 5) := hc0.c33
    have k340 : W.cell? ⟨b, 34, none⟩ = some (.int .i64 main) := hc0.c34
    have k360 : W.cell? ⟨b, 36, none⟩ = some (.int .i64 next) := hc0.c36
    have k430 : W.cell? ⟨b, 43, none⟩ = some (.int .i64 e.status) := hc0.c43
    have k110 : W.cell? ⟨b, 11, none⟩ = some (.int .i64 e.typ) := hc0.c11
    clear hc0
    go_enter Try.func55, Try.ntmps55
    go_wp2
    first | go_end0 | ((try simp only [Exit.inBlock, Exit.then]); refine bodyPost_ret (results_none rfl _ _ _) rfl ?_)
    exact ⟨rfl, hI.set34 0⟩
  · clear h1 h2
    obtain ⟨vs0, vo0, hc0⟩ := hI.cs
    have fr0 := hc0.fr
    have k330 : W.cell? ⟨b, 33, none⟩ = some (.int .i64 6) := hc0.c33
    have k340 : W.cell? ⟨b, 34, none⟩ = some (.int .i64 main) := hc0.c34
    have k360 : W.cell? ⟨b, 36, none⟩ = some (.int .i64 next) := hc0.c36
    have k430 : W.cell? ⟨b, 43, none⟩ = some (.int .i64 e.status) := hc0.c43
    have k110 : W.cell? ⟨b, 11, none⟩ = some (.int .i64 e.typ) := hc0.c11
    clear hc0
    go_enter Try.func55, Try.ntmps55
    go_wp2
    first | go_end0 | ((try simp only [Exit.inBlock, Exit.then]); refine bodyPost_ret (results_none rfl _ _ _) rfl ?_)
    exact ⟨rfl, hI.set34 0⟩
  · clear h1 h2
    obtain ⟨vs0, vo0, hc0⟩ := hI.cs
    have fr0 := hc0.fr
    have k330 : W.cell? ⟨b, 33, none⟩ = some (.int .i64 7) := hc0.c33
    have k340 : W.cell? ⟨b, 34, none⟩ = some (.int .i64 main) := hc0.c34
    have k360 : W.cell? ⟨b, 36, none⟩ = some (.int .i64 next) := hc0.c36
    have k430 : W.cell? ⟨b, 43, none⟩ = some (.int .i64 e.status) := hc0.c43
    have k110 : W.cell? ⟨b, 11, none⟩ = some (.int .i64 e.typ) := hc0.c11
    clear hc0
    go_enter Try.func55, Try.ntmps55
    go_wp2
    first | go_end0 | ((try simp only [Exit.inBlock, Exit.then]); refine bodyPost_ret (results_none rfl _ _ _) rfl ?_)
    exact ⟨rfl, hI.set34 0⟩
  · clear h1 h2
    obtain ⟨vs0, vo0, hc0⟩ := hI.cs
    have fr0 := hc0.fr
    have k330 : W.cell? ⟨b, 33, none⟩ = some (.int .i64 8) := hc0.c33
    have k340 : W.cell? ⟨b, 34, none⟩ = some (.int .i64 main) := hc0.c34
    have k360 : W.cell? ⟨b, 36, none⟩ = some (.int .i64 next) := hc0.c36
    have k430 : W.cell? ⟨b, 43, none⟩ = some (.int .i64 e.status) := hc0.c43
    have k110 : W.cell? ⟨b, 11, none⟩ = some (.int .i64 e.typ) := hc0.c11
    clear hc0
    go_enter Try.func55, Try.ntmps55
    go_wp2
    first | go_end0 | ((try simp only [Exit.inBlock, Exit.then]); refine bodyPost_ret (results_none rfl _ _ _) rfl ?_)
    exact ⟨rfl, hI.set34 0⟩
  · clear h1 h2
    obtain ⟨vs0, vo0, hc0⟩ := hI.cs
    have fr0 := hc0.fr
    have k330 : W.cell? ⟨b, 33, none⟩ = some (.int .i64 9) := hc0.c33
    have k340 : W.cell? ⟨b, 34, none⟩ = some (.int .i64 main) := hc0.c34
    have k360 : W.cell? ⟨b, 36, none⟩ = some (.int .i64 next) := hc0.c36
    have k430 : W.cell? ⟨b, 43, none⟩ = some (.int .i64 e.status) := hc0.c43
    have k110 : W.cell? ⟨b, 11, none⟩ = some (.int .i64 e.typ) := hc0.c11
    clear hc0
    go_enter Try.func55, Try.ntmps55
    go_wp2
    first | go_end0 | ((try simp only [Exit.inBlock, Exit.then]); refine bodyPost_ret (results_none rfl _ _ _) rfl ?_)
    exact ⟨rfl, hI.set34 0⟩
  · clear h1 h2
    obtain ⟨vs0, vo0, hc0⟩ := hI.cs
    have fr0 := hc0.fr
    have k330 : W.cell? ⟨b, 33, none⟩ = some (.int .i64 10) := hc0.c33
    have k340 : W.cell? ⟨b, 34, none⟩ = some (.int .i64 main) := hc0.c34
    have k360 : W.cell? ⟨b, 36, none⟩ = some (.int .i64 next) := hc0.c36
    have k430 : W.cell? ⟨b, 43, none⟩ = some (.int .i64 e.status) := hc0.c43
    have k110 : W.cell? ⟨b, 11, none⟩ = some (.int .i64 e.typ) := hc0.c11
    clear hc0
    go_enter Try.func55, Try.ntmps55
    go_wp2
    first | go_end0 | ((try simp only [Exit.inBlock, Exit.then]); refine bodyPost_ret (results_none rfl _ _ _) rfl ?_)
    exact ⟨rfl, hI.set34 0⟩
theorem spawned_calls (hk : Ok w0 b e) (hI : Inv w0 W b e s) (h1 : 1 ≤ s.sub) (h2 : s.sub ≤ 10) (hn : s.out.length ≤ 930) :
    Calls Try.prog 47 #[.pointer (some ⟨b, 0, none⟩)] W fun e' W' => e' = .returned (.tuple #[]) ∧ Inv w0 W' b e (spawnedS e s) := by
  obtain ⟨sub, main, control, next, starts, stopping, result, waiting, out⟩ := s
  dsimp only at *
  have hl7 : out.length ≤ 970 := Nat.le_trans hn (by decide)
  have hl8 : out.length ≤ 980 := Nat.le_trans hn (by decide)
  have hl6 : out.length ≤ 960 := Nat.le_trans hn (by decide)
  cases waiting with
  | false =>
    obtain ⟨vs0, vo0, hc0⟩ := hI.cs
    have fr0 := hc0.fr
    have k400 : W.cell? ⟨b, 40, none⟩ = some (.bool false) := hc0.c40
    clear hc0
    go_enter Try.func47, Try.ntmps47
    go_wp2
    first | go_end0 | ((try simp only [Exit.inBlock, Exit.then]); refine bodyPost_ret (results_none rfl _ _ _) rfl ?_)
    exact ⟨rfl, hI⟩
  | true =>
    have hJ := hI.set40 false
    rcases sub_cases h1 h2 with rfl | rfl | rfl | rfl | rfl | rfl | rfl | rfl | rfl | rfl
    · clear h1 h2
      obtain ⟨vs0, vo0, hc0⟩ := hI.cs
      have fr0 := hc0.fr
      have k400 : W.cell? ⟨b, 40, none⟩ = some (.bool true) := hc0.c40
      have k330 : W.cell? ⟨b, 33, none⟩ = some (.int .i64 1) := hc0.c33
      have k340 : W.cell? ⟨b, 34, none⟩ = some (.int .i64 main) := hc0.c34
      have k350 : W.cell? ⟨b, 35, none⟩ = some (.int .i64 control) := hc0.c35
      have k110 : W.cell? ⟨b, 11, none⟩ = some (.int .i64 e.typ) := hc0.c11
      clear hc0
      obtain ⟨vsJ, voJ, hcJ⟩ := hJ.drew.cs
      have kk34 := hcJ.c34
      have kk35 := hcJ.c35
      have kk33 := hcJ.c33
      have kk42 := hcJ.c42
      have kk11 := hcJ.c11
      have kkf := hcJ.fr
      clear hcJ
      cases hp1 : decide (e.pid < 2) with
      | true =>
        unfold spawnedS spawnedG badP
        dsimp only
        rw [hp1]
        go_enter Try.func47, Try.ntmps47
        go_wp2
        go_region_held3 (fun w' => w'.cell? ⟨b, 33, none⟩ = some (.int .i64 1) ∧ w'.cell? ⟨b, 42, none⟩ = some (.int .i64 e.pid)) (exact ⟨kk33, kk42⟩) (fail)
        go_wp2
        first | go_end0 | ((try simp only [Exit.inBlock, Exit.then]); refine bodyPost_ret (results_none rfl _ _ _) rfl ?_)
        exact ⟨rfl, hJ.drew⟩
      | false =>
        cases hp2 : (e.pid == main) with
        | true =>
          unfold spawnedS spawnedG badP
          dsimp only
          rw [hp1, hp2]
          go_enter Try.func47, Try.ntmps47
          go_wp2
          go_region_held3 (fun w' => w'.cell? ⟨b, 33, none⟩ = some (.int .i64 1) ∧ w'.cell? ⟨b, 42, none⟩ = some (.int .i64 e.pid)) (exact ⟨kk33, kk42⟩) (fail)
          go_wp2
          first | go_end0 | ((try simp only [Exit.inBlock, Exit.then]); refine bodyPost_ret (results_none rfl _ _ _) rfl ?_)
          exact ⟨rfl, hJ.drew⟩
        | false =>
          cases hp3 : (e.pid == control) with
          | true =>
            unfold spawnedS spawnedG badP
            dsimp only
            rw [hp1, hp2, hp3]
            go_enter Try.func47, Try.ntmps47
            go_wp2
            go_region_held3 (fun w' => w'.cell? ⟨b, 33, none⟩ = some (.int .i64 1) ∧ w'.cell? ⟨b, 42, none⟩ = some (.int .i64 e.pid)) (exact ⟨kk33, kk42⟩) (fail)
            go_wp2
            first | go_end0 | ((try simp only [Exit.inBlock, Exit.then]); refine bodyPost_ret (results_none rfl _ _ _) rfl ?_)
            exact ⟨rfl, hJ.drew⟩
          | false =>
            unfold spawnedS spawnedG badP
            dsimp only
            rw [hp1, hp2, hp3]
            go_enter Try.func47, Try.ntmps47
            go_wp2
            go_region_held3 (fun w' => w'.cell? ⟨b, 33, none⟩ = some (.int .i64 1) ∧ w'.cell? ⟨b, 42, none⟩ = some (.int .i64 e.pid)) (exact ⟨kk33, kk42⟩) (fail)
            go_wp2
            first | go_end0 | ((try simp only [Exit.inBlock, Exit.then]); refine bodyPost_ret (results_none rfl _ _ _) rfl ?_)
            exact ⟨rfl, hJ.drew⟩
    · clear h1 h2
      obtain ⟨vs0, vo0, hc0⟩ := hI.cs
      have fr0 := hc0.fr
      have k400 : W.cell? ⟨b, 40, none⟩ = some (.bool true) := hc0.c40
      have k330 : W.cell? ⟨b, 33, none⟩ = some (.int .i64 2) := hc0.c33
      have k340 : W.cell? ⟨b, 34, none⟩ = some (.int .i64 main) := hc0.c34
      have k350 : W.cell? ⟨b, 35, none⟩ = some (.int .i64 control) := hc0.c35
      have k110 : W.cell? ⟨b, 11, none⟩ = some (.int .i64 e.typ) := hc0.c11
      clear hc0
      obtain ⟨vsJ, voJ, hcJ⟩ := hJ.drew.cs
      have kk34 := hcJ.c34
      have kk35 := hcJ.c35
      have kk33 := hcJ.c33
      have kk42 := hcJ.c42
      have kk11 := hcJ.c11
      have kkf := hcJ.fr
      clear hcJ
      cases hp1 : decide (e.pid < 2) with
      | true =>
        unfold spawnedS spawnedG badP
        dsimp only
        rw [hp1]
        go_enter Try.func47, Try.ntmps47
        go_wp2
        go_region_held3 (fun w' => w'.cell? ⟨b, 33, none⟩ = some (.int .i64 2) ∧ w'.cell? ⟨b, 42, none⟩ = some (.int .i64 e.pid)) (exact ⟨kk33, kk42⟩) (fail)
        go_wp2_with (first | (go_at_call 59; refine (fails_calls hJ.drew 2 hl7).mono ?_; rintro e' w1 ⟨rfl, hI1⟩))
        first | go_end0 | ((try simp only [Exit.inBlock, Exit.then]); refine bodyPost_ret (results_none rfl _ _ _) rfl ?_)
        exact ⟨rfl, hI1⟩
      | false =>
        cases hp2 : (e.pid == main) with
        | true =>
          unfold spawnedS spawnedG badP
          dsimp only
          rw [hp1, hp2]
          go_enter Try.func47, Try.ntmps47
          go_wp2
          go_region_held3 (fun w' => w'.cell? ⟨b, 33, none⟩ = some (.int .i64 2) ∧ w'.cell? ⟨b, 42, none⟩ = some (.int .i64 e.pid)) (exact ⟨kk33, kk42⟩) (fail)
          go_wp2_with (first | (go_at_call 59; refine (fails_calls hJ.drew 2 hl7).mono ?_; rintro e' w1 ⟨rfl, hI1⟩))
          first | go_end0 | ((try simp only [Exit.inBlock, Exit.then]); refine bodyPost_ret (results_none rfl _ _ _) rfl ?_)
          exact ⟨rfl, hI1⟩
        | false =>
          cases hp3 : (e.pid == control) with
          | true =>
            unfold spawnedS spawnedG badP
            dsimp only
            rw [hp1, hp2, hp3]
            go_enter Try.func47, Try.ntmps47
            go_wp2
            go_region_held3 (fun w' => w'.cell? ⟨b, 33, none⟩ = some (.int .i64 2) ∧ w'.cell? ⟨b, 42, none⟩ = some (.int .i64 e.pid)) (exact ⟨kk33, kk42⟩) (fail)
            go_wp2_with (first | (go_at_call 59; refine (fails_calls hJ.drew 2 hl7).mono ?_; rintro e' w1 ⟨rfl, hI1⟩))
            first | go_end0 | ((try simp only [Exit.inBlock, Exit.then]); refine bodyPost_ret (results_none rfl _ _ _) rfl ?_)
            exact ⟨rfl, hI1⟩
          | false =>
            unfold spawnedS spawnedG badP
            dsimp only
            rw [hp1, hp2, hp3]
            go_enter Try.func47, Try.ntmps47
            go_wp2
            go_region_held3 (fun w' => w'.cell? ⟨b, 33, none⟩ = some (.int .i64 2) ∧ w'.cell? ⟨b, 42, none⟩ = some (.int .i64 e.pid)) (exact ⟨kk33, kk42⟩) (fail)
            go_wp2
            first | go_end0 | ((try simp only [Exit.inBlock, Exit.then]); refine bodyPost_ret (results_none rfl _ _ _) rfl ?_)
            exact ⟨rfl, hJ.drew.set35 e.pid⟩
    · clear h1 h2
      obtain ⟨vs0, vo0, hc0⟩ := hI.cs
      have fr0 := hc0.fr
      have k400 : W.cell? ⟨b, 40, none⟩ = some (.bool true) := hc0.c40
      have k330 : W.cell? ⟨b, 33, none⟩ = some (.int .i64 3) := hc0.c33
      have k340 : W.cell? ⟨b, 34, none⟩ = some (.int .i64 main) := hc0.c34
      have k350 : W.cell? ⟨b, 35, none⟩ = some (.int .i64 control) := hc0.c35
      have k110 : W.cell? ⟨b, 11, none⟩ = some (.int .i64 e.typ) := hc0.c11
      clear hc0
      obtain ⟨vsJ, voJ, hcJ⟩ := hJ.drew.cs
      have kk34 := hcJ.c34
      have kk35 := hcJ.c35
      have kk33 := hcJ.c33
      have kk42 := hcJ.c42
      have kk11 := hcJ.c11
      have kkf := hcJ.fr
      clear hcJ
      cases hp1 : decide (e.pid < 2) with
      | true =>
        unfold spawnedS spawnedG badP
        dsimp only
        rw [hp1]
        go_enter Try.func47, Try.ntmps47
        go_wp2
        go_region_held3 (fun w' => w'.cell? ⟨b, 33, none⟩ = some (.int .i64 3) ∧ w'.cell? ⟨b, 42, none⟩ = some (.int .i64 e.pid)) (exact ⟨kk33, kk42⟩) (fail)
        go_wp2_with (first | (go_at_call 59; refine (fails_calls hJ.drew 2 hl7).mono ?_; rintro e' w1 ⟨rfl, hI1⟩))
        first | go_end0 | ((try simp only [Exit.inBlock, Exit.then]); refine bodyPost_ret (results_none rfl _ _ _) rfl ?_)
        exact ⟨rfl, hI1⟩
      | false =>
        cases hp2 : (e.pid == main) with
        | true =>
          unfold spawnedS spawnedG badP
          dsimp only
          rw [hp1, hp2]
          go_enter Try.func47, Try.ntmps47
          go_wp2
          go_region_held3 (fun w' => w'.cell? ⟨b, 33, none⟩ = some (.int .i64 3) ∧ w'.cell? ⟨b, 42, none⟩ = some (.int .i64 e.pid)) (exact ⟨kk33, kk42⟩) (fail)
          go_wp2_with (first | (go_at_call 59; refine (fails_calls hJ.drew 2 hl7).mono ?_; rintro e' w1 ⟨rfl, hI1⟩))
          first | go_end0 | ((try simp only [Exit.inBlock, Exit.then]); refine bodyPost_ret (results_none rfl _ _ _) rfl ?_)
          exact ⟨rfl, hI1⟩
        | false =>
          cases hp3 : (e.pid == control) with
          | true =>
            unfold spawnedS spawnedG badP
            dsimp only
            rw [hp1, hp2, hp3]
            go_enter Try.func47, Try.ntmps47
            go_wp2
            go_region_held3 (fun w' => w'.cell? ⟨b, 33, none⟩ = some (.int .i64 3) ∧ w'.cell? ⟨b, 42, none⟩ = some (.int .i64 e.pid)) (exact ⟨kk33, kk42⟩) (fail)
            go_wp2_with (first | (go_at_call 59; refine (fails_calls hJ.drew 2 hl7).mono ?_; rintro e' w1 ⟨rfl, hI1⟩))
            first | go_end0 | ((try simp only [Exit.inBlock, Exit.then]); refine bodyPost_ret (results_none rfl _ _ _) rfl ?_)
            exact ⟨rfl, hI1⟩
          | false =>
            cases ht3 : (e.typ == 3) with
            | true =>
              unfold spawnedS spawnedG badP
              dsimp only
              rw [ht3, hp1, hp2, hp3]
              go_enter Try.func47, Try.ntmps47
              go_wp2
              go_region_held3 (fun w' => w'.cell? ⟨b, 33, none⟩ = some (.int .i64 3) ∧ w'.cell? ⟨b, 42, none⟩ = some (.int .i64 e.pid)) (exact ⟨kk33, kk42⟩) (fail)
              go_wp2
              first | go_end0 | ((try simp only [Exit.inBlock, Exit.then]); refine bodyPost_ret (results_none rfl _ _ _) rfl ?_)
              exact ⟨rfl, hJ.drew.set35 e.pid⟩
            | false =>
              cases ht1 : (e.typ == 1) with
              | true =>
                unfold spawnedS spawnedG badP
                dsimp only
                rw [ht3, ht1, hp1, hp2, hp3]
                go_enter Try.func47, Try.ntmps47
                go_wp2
                go_region_held3 (fun w' => w'.cell? ⟨b, 33, none⟩ = some (.int .i64 3) ∧ w'.cell? ⟨b, 42, none⟩ = some (.int .i64 e.pid)) (exact ⟨kk33, kk42⟩) (fail)
                go_wp2_with (first | (go_at_call 56; refine (started_calls (hJ.drew.set34 e.pid) hl6).mono ?_; rintro e' w1 ⟨rfl, hI1⟩))
                first | go_end0 | ((try simp only [Exit.inBlock, Exit.then]); refine bodyPost_ret (results_none rfl _ _ _) rfl ?_)
                exact ⟨rfl, hI1⟩
              | false =>
                cases ht2 : (e.typ == 2) with
                | true =>
                  unfold spawnedS spawnedG badP
                  dsimp only
                  rw [ht3, ht1, ht2, hp1, hp2, hp3]
                  go_enter Try.func47, Try.ntmps47
                  go_wp2
                  go_region_held3 (fun w' => w'.cell? ⟨b, 33, none⟩ = some (.int .i64 3) ∧ w'.cell? ⟨b, 42, none⟩ = some (.int .i64 e.pid)) (exact ⟨kk33, kk42⟩) (fail)
                  go_wp2_with (first | (go_at_call 56; refine (started_calls (hJ.drew.set34 e.pid) hl6).mono ?_; rintro e' w1 ⟨rfl, hI1⟩))
                  first | go_end0 | ((try simp only [Exit.inBlock, Exit.then]); refine bodyPost_ret (results_none rfl _ _ _) rfl ?_)
                  exact ⟨rfl, hI1⟩
                | false =>
                  unfold spawnedS spawnedG badP
                  dsimp only
                  rw [ht3, ht1, ht2, hp1, hp2, hp3]
                  go_enter Try.func47, Try.ntmps47
                  go_wp2
                  go_region_held3 (fun w' => w'.cell? ⟨b, 33, none⟩ = some (.int .i64 3) ∧ w'.cell? ⟨b, 42, none⟩ = some (.int .i64 e.pid)) (exact ⟨kk33, kk42⟩) (fail)
                  go_wp2
                  first | go_end0 | ((try simp only [Exit.inBlock, Exit.then]); refine bodyPost_ret (results_none rfl _ _ _) rfl ?_)
                  exact ⟨rfl, hJ.drew.set34 e.pid⟩
    · clear h1 h2
      obtain ⟨vs0, vo0, hc0⟩ := hI.cs
      have fr0 := hc0.fr
      have k400 : W.cell? ⟨b, 40, none⟩ = some (.bool true) := hc0.c40
      have k330 : W.cell? ⟨b, 33, none⟩ = some (.int .i64 4) := hc0.c33
      have k340 : W.cell? ⟨b, 34, none⟩ = some (.int .i64 main) := hc0.c34
      have k350 : W.cell? ⟨b, 35, none⟩ = some (.int .i64 control) := hc0.c35
      have k110 : W.cell? ⟨b, 11, none⟩ = some (.int .i64 e.typ) := hc0.c11
      clear hc0
      obtain ⟨vsJ, voJ, hcJ⟩ := hJ.drew.cs
      have kk34 := hcJ.c34
      have kk35 := hcJ.c35
      have kk33 := hcJ.c33
      have kk42 := hcJ.c42
      have kk11 := hcJ.c11
      have kkf := hcJ.fr
      clear hcJ
      cases hp1 : decide (e.pid < 2) with
      | true =>
        unfold spawnedS spawnedG badP
        dsimp only
        rw [hp1]
        go_enter Try.func47, Try.ntmps47
        go_wp2
        go_region_held3 (fun w' => w'.cell? ⟨b, 33, none⟩ = some (.int .i64 4) ∧ w'.cell? ⟨b, 42, none⟩ = some (.int .i64 e.pid)) (exact ⟨kk33, kk42⟩) (fail)
        go_wp2
        first | go_end0 | ((try simp only [Exit.inBlock, Exit.then]); refine bodyPost_ret (results_none rfl _ _ _) rfl ?_)
        exact ⟨rfl, hJ.drew⟩
      | false =>
        cases hp2 : (e.pid == main) with
        | true =>
          unfold spawnedS spawnedG badP
          dsimp only
          rw [hp1, hp2]
          go_enter Try.func47, Try.ntmps47
          go_wp2
          go_region_held3 (fun w' => w'.cell? ⟨b, 33, none⟩ = some (.int .i64 4) ∧ w'.cell? ⟨b, 42, none⟩ = some (.int .i64 e.pid)) (exact ⟨kk33, kk42⟩) (fail)
          go_wp2
          first | go_end0 | ((try simp only [Exit.inBlock, Exit.then]); refine bodyPost_ret (results_none rfl _ _ _) rfl ?_)
          exact ⟨rfl, hJ.drew⟩
        | false =>
          cases hp3 : (e.pid == control) with
          | true =>
            unfold spawnedS spawnedG badP
            dsimp only
            rw [hp1, hp2, hp3]
            go_enter Try.func47, Try.ntmps47
            go_wp2
            go_region_held3 (fun w' => w'.cell? ⟨b, 33, none⟩ = some (.int .i64 4) ∧ w'.cell? ⟨b, 42, none⟩ = some (.int .i64 e.pid)) (exact ⟨kk33, kk42⟩) (fail)
            go_wp2
            first | go_end0 | ((try simp only [Exit.inBlock, Exit.then]); refine bodyPost_ret (results_none rfl _ _ _) rfl ?_)
            exact ⟨rfl, hJ.drew⟩
          | false =>
            unfold spawnedS spawnedG badP
            dsimp only
            rw [hp1, hp2, hp3]
            go_enter Try.func47, Try.ntmps47
            go_wp2
            go_region_held3 (fun w' => w'.cell? ⟨b, 33, none⟩ = some (.int .i64 4) ∧ w'.cell? ⟨b, 42, none⟩ = some (.int .i64 e.pid)) (exact ⟨kk33, kk42⟩) (fail)
            go_wp2
            first | go_end0 | ((try simp only [Exit.inBlock, Exit.then]); refine bodyPost_ret (results_none rfl _ _ _) rfl ?_)
            exact ⟨rfl, hJ.drew⟩
    · clear h1 h2
      obtain ⟨vs0, vo0, hc0⟩ := hI.cs
      have fr0 := hc0.fr
      have k400 : W.cell? ⟨b, 40, none⟩ = some (.bool true) := hc0.c40
      have k330 : W.cell? ⟨b, 33, none⟩ = some (.int .i64 5) := hc0.c33
      have k340 : W.cell? ⟨b, 34, none⟩ = some (.int .i64 main) := hc0.c34
      have k350 : W.cell? ⟨b, 35, none⟩ = some (.int .i64 control) := hc0.c35
      have k110 : W.cell? ⟨b, 11, none⟩ = some (.int .i64 e.typ) := hc0.c11
      clear hc0
      obtain ⟨vsJ, voJ, hcJ⟩ := hJ.drew.cs
      have kk34 := hcJ.c34
      have kk35 := hcJ.c35
      have kk33 := hcJ.c33
      have kk42 := hcJ.c42
      have kk11 := hcJ.c11
      have kkf := hcJ.fr
      clear hcJ
      cases hp1 : decide (e.pid < 2) with
      | true =>
        unfold spawnedS spawnedG badP
        dsimp only
        rw [hp1]
        go_enter Try.func47, Try.ntmps47
        go_wp2
        go_region_held3 (fun w' => w'.cell? ⟨b, 33, none⟩ = some (.int .i64 5) ∧ w'.cell? ⟨b, 42, none⟩ = some (.int .i64 e.pid)) (exact ⟨kk33, kk42⟩) (fail)
        go_wp2
        first | go_end0 | ((try simp only [Exit.inBlock, Exit.then]); refine bodyPost_ret (results_none rfl _ _ _) rfl ?_)
        exact ⟨rfl, hJ.drew⟩
      | false =>
        cases hp2 : (e.pid == main) with
        | true =>
          unfold spawnedS spawnedG badP
          dsimp only
          rw [hp1, hp2]
          go_enter Try.func47, Try.ntmps47
          go_wp2
          go_region_held3 (fun w' => w'.cell? ⟨b, 33, none⟩ = some (.int .i64 5) ∧ w'.cell? ⟨b, 42, none⟩ = some (.int .i64 e.pid)) (exact ⟨kk33, kk42⟩) (fail)
          go_wp2
          first | go_end0 | ((try simp only [Exit.inBlock, Exit.then]); refine bodyPost_ret (results_none rfl _ _ _) rfl ?_)
          exact ⟨rfl, hJ.drew⟩
        | false =>
          cases hp3 : (e.pid == control) with
          | true =>
            unfold spawnedS spawnedG badP
            dsimp only
            rw [hp1, hp2, hp3]
            go_enter Try.func47, Try.ntmps47
            go_wp2
            go_region_held3 (fun w' => w'.cell? ⟨b, 33, none⟩ = some (.int .i64 5) ∧ w'.cell? ⟨b, 42, none⟩ = some (.int .i64 e.pid)) (exact ⟨kk33, kk42⟩) (fail)
            go_wp2
            first | go_end0 | ((try simp only [Exit.inBlock, Exit.then]); refine bodyPost_ret (results_none rfl _ _ _) rfl ?_)
            exact ⟨rfl, hJ.drew⟩
          | false =>
            unfold spawnedS spawnedG badP
            dsimp only
            rw [hp1, hp2, hp3]
            go_enter Try.func47, Try.ntmps47
            go_wp2
            go_region_held3 (fun w' => w'.cell? ⟨b, 33, none⟩ = some (.int .i64 5) ∧ w'.cell? ⟨b, 42, none⟩ = some (.int .i64 e.pid)) (exact ⟨kk33, kk42⟩) (fail)
            go_wp2
            first | go_end0 | ((try simp only [Exit.inBlock, Exit.then]); refine bodyPost_ret (results_none rfl _ _ _) rfl ?_)
            exact ⟨rfl, hJ.drew⟩
    · clear h1 h2
      obtain ⟨vs0, vo0, hc0⟩ := hI.cs
      have fr0 := hc0.fr
      have k400 : W.cell? ⟨b, 40, none⟩ = some (.bool true) := hc0.c40
      have k330 : W.cell? ⟨b, 33, none⟩ = some (.int .i64 6) := hc0.c33
      have k340 : W.cell? ⟨b, 34, none⟩ = some (.int .i64 main) := hc0.c34
      have k350 : W.cell? ⟨b, 35, none⟩ = some (.int .i64 control) := hc0.c35
      have k110 : W.cell? ⟨b, 11, none⟩ = some (.int .i64 e.typ) := hc0.c11
      clear hc0
      obtain ⟨vsJ, voJ, hcJ⟩ := hJ.drew.cs
      have kk34 := hcJ.c34
      have kk35 := hcJ.c35
      have kk33 := hcJ.c33
      have kk42 := hcJ.c42
      have kk11 := hcJ.c11
      have kkf := hcJ.fr
      clear hcJ
      cases hp1 : decide (e.pid < 2) with
      | true =>
        unfold spawnedS spawnedG badP
        dsimp only
        rw [hp1]
        go_enter Try.func47, Try.ntmps47
        go_wp2
        go_region_held3 (fun w' => w'.cell? ⟨b, 33, none⟩ = some (.int .i64 6) ∧ w'.cell? ⟨b, 42, none⟩ = some (.int .i64 e.pid)) (exact ⟨kk33, kk42⟩) (fail)
        go_wp2_with (first | (go_at_call 45; refine (terms_calls hJ.drew 2 hl8).mono ?_; rintro e' w1 ⟨rfl, hI1⟩))
        first | go_end0 | ((try simp only [Exit.inBlock, Exit.then]); refine bodyPost_ret (results_none rfl _ _ _) rfl ?_)
        exact ⟨rfl, hI1⟩
      | false =>
        cases hp2 : (e.pid == main) with
        | true =>
          unfold spawnedS spawnedG badP
          dsimp only
          rw [hp1, hp2]
          go_enter Try.func47, Try.ntmps47
          go_wp2
          go_region_held3 (fun w' => w'.cell? ⟨b, 33, none⟩ = some (.int .i64 6) ∧ w'.cell? ⟨b, 42, none⟩ = some (.int .i64 e.pid)) (exact ⟨kk33, kk42⟩) (fail)
          go_wp2_with (first | (go_at_call 45; refine (terms_calls hJ.drew 2 hl8).mono ?_; rintro e' w1 ⟨rfl, hI1⟩))
          first | go_end0 | ((try simp only [Exit.inBlock, Exit.then]); refine bodyPost_ret (results_none rfl _ _ _) rfl ?_)
          exact ⟨rfl, hI1⟩
        | false =>
          cases hp3 : (e.pid == control) with
          | true =>
            unfold spawnedS spawnedG badP
            dsimp only
            rw [hp1, hp2, hp3]
            go_enter Try.func47, Try.ntmps47
            go_wp2
            go_region_held3 (fun w' => w'.cell? ⟨b, 33, none⟩ = some (.int .i64 6) ∧ w'.cell? ⟨b, 42, none⟩ = some (.int .i64 e.pid)) (exact ⟨kk33, kk42⟩) (fail)
            go_wp2_with (first | (go_at_call 45; refine (terms_calls hJ.drew 2 hl8).mono ?_; rintro e' w1 ⟨rfl, hI1⟩))
            first | go_end0 | ((try simp only [Exit.inBlock, Exit.then]); refine bodyPost_ret (results_none rfl _ _ _) rfl ?_)
            exact ⟨rfl, hI1⟩
          | false =>
            unfold spawnedS spawnedG badP
            dsimp only
            rw [hp1, hp2, hp3]
            go_enter Try.func47, Try.ntmps47
            go_wp2
            go_region_held3 (fun w' => w'.cell? ⟨b, 33, none⟩ = some (.int .i64 6) ∧ w'.cell? ⟨b, 42, none⟩ = some (.int .i64 e.pid)) (exact ⟨kk33, kk42⟩) (fail)
            go_wp2
            first | go_end0 | ((try simp only [Exit.inBlock, Exit.then]); refine bodyPost_ret (results_none rfl _ _ _) rfl ?_)
            exact ⟨rfl, hJ.drew.set35 e.pid⟩
    · clear h1 h2
      obtain ⟨vs0, vo0, hc0⟩ := hI.cs
      have fr0 := hc0.fr
      have k400 : W.cell? ⟨b, 40, none⟩ = some (.bool true) := hc0.c40
      have k330 : W.cell? ⟨b, 33, none⟩ = some (.int .i64 7) := hc0.c33
      have k340 : W.cell? ⟨b, 34, none⟩ = some (.int .i64 main) := hc0.c34
      have k350 : W.cell? ⟨b, 35, none⟩ = some (.int .i64 control) := hc0.c35
      have k110 : W.cell? ⟨b, 11, none⟩ = some (.int .i64 e.typ) := hc0.c11
      clear hc0
      obtain ⟨vsJ, voJ, hcJ⟩ := hJ.drew.cs
      have kk34 := hcJ.c34
      have kk35 := hcJ.c35
      have kk33 := hcJ.c33
      have kk42 := hcJ.c42
      have kk11 := hcJ.c11
      have kkf := hcJ.fr
      clear hcJ
      cases hp1 : decide (e.pid < 2) with
      | true =>
        unfold spawnedS spawnedG badP
        dsimp only
        rw [hp1]
        go_enter Try.func47, Try.ntmps47
        go_wp2
        go_region_held3 (fun w' => w'.cell? ⟨b, 33, none⟩ = some (.int .i64 7) ∧ w'.cell? ⟨b, 42, none⟩ = some (.int .i64 e.pid)) (exact ⟨kk33, kk42⟩) (fail)
        go_wp2
        first | go_end0 | ((try simp only [Exit.inBlock, Exit.then]); refine bodyPost_ret (results_none rfl _ _ _) rfl ?_)
        exact ⟨rfl, hJ.drew⟩
      | false =>
        cases hp2 : (e.pid == main) with
        | true =>
          unfold spawnedS spawnedG badP
          dsimp only
          rw [hp1, hp2]
          go_enter Try.func47, Try.ntmps47
          go_wp2
          go_region_held3 (fun w' => w'.cell? ⟨b, 33, none⟩ = some (.int .i64 7) ∧ w'.cell? ⟨b, 42, none⟩ = some (.int .i64 e.pid)) (exact ⟨kk33, kk42⟩) (fail)
          go_wp2
          first | go_end0 | ((try simp only [Exit.inBlock, Exit.then]); refine bodyPost_ret (results_none rfl _ _ _) rfl ?_)
          exact ⟨rfl, hJ.drew⟩
        | false =>
          cases hp3 : (e.pid == control) with
          | true =>
            unfold spawnedS spawnedG badP
            dsimp only
            rw [hp1, hp2, hp3]
            go_enter Try.func47, Try.ntmps47
            go_wp2
            go_region_held3 (fun w' => w'.cell? ⟨b, 33, none⟩ = some (.int .i64 7) ∧ w'.cell? ⟨b, 42, none⟩ = some (.int .i64 e.pid)) (exact ⟨kk33, kk42⟩) (fail)
            go_wp2
            first | go_end0 | ((try simp only [Exit.inBlock, Exit.then]); refine bodyPost_ret (results_none rfl _ _ _) rfl ?_)
            exact ⟨rfl, hJ.drew⟩
          | false =>
            unfold spawnedS spawnedG badP
            dsimp only
            rw [hp1, hp2, hp3]
            go_enter Try.func47, Try.ntmps47
            go_wp2
            go_region_held3 (fun w' => w'.cell? ⟨b, 33, none⟩ = some (.int .i64 7) ∧ w'.cell? ⟨b, 42, none⟩ = some (.int .i64 e.pid)) (exact ⟨kk33, kk42⟩) (fail)
            go_wp2
            first | go_end0 | ((try simp only [Exit.inBlock, Exit.then]); refine bodyPost_ret (results_none rfl _ _ _) rfl ?_)
            exact ⟨rfl, hJ.drew⟩
    · clear h1 h2
      obtain ⟨vs0, vo0, hc0⟩ := hI.cs
      have fr0 := hc0.fr
      have k400 : W.cell? ⟨b, 40, none⟩ = some (.bool true) := hc0.c40
      have k330 : W.cell? ⟨b, 33, none⟩ = some (.int .i64 8) := hc0.c33
      have k340 : W.cell? ⟨b, 34, none⟩ = some (.int .i64 main) := hc0.c34
      have k350 : W.cell? ⟨b, 35, none⟩ = some (.int .i64 control) := hc0.c35
      have k110 : W.cell? ⟨b, 11, none⟩ = some (.int .i64 e.typ) := hc0.c11
      clear hc0
      obtain ⟨vsJ, voJ, hcJ⟩ := hJ.drew.cs
      have kk34 := hcJ.c34
      have kk35 := hcJ.c35
      have kk33 := hcJ.c33
      have kk42 := hcJ.c42
      have kk11 := hcJ.c11
      have kkf := hcJ.fr
      clear hcJ
      cases hp1 : decide (e.pid < 2) with
      | true =>
        unfold spawnedS spawnedG badP
        dsimp only
        rw [hp1]
        go_enter Try.func47, Try.ntmps47
        go_wp2
        go_region_held3 (fun w' => w'.cell? ⟨b, 33, none⟩ = some (.int .i64 8) ∧ w'.cell? ⟨b, 42, none⟩ = some (.int .i64 e.pid)) (exact ⟨kk33, kk42⟩) (fail)
        go_wp2
        first | go_end0 | ((try simp only [Exit.inBlock, Exit.then]); refine bodyPost_ret (results_none rfl _ _ _) rfl ?_)
        exact ⟨rfl, hJ.drew⟩
      | false =>
        cases hp2 : (e.pid == main) with
        | true =>
          unfold spawnedS spawnedG badP
          dsimp only
          rw [hp1, hp2]
          go_enter Try.func47, Try.ntmps47
          go_wp2
          go_region_held3 (fun w' => w'.cell? ⟨b, 33, none⟩ = some (.int .i64 8) ∧ w'.cell? ⟨b, 42, none⟩ = some (.int .i64 e.pid)) (exact ⟨kk33, kk42⟩) (fail)
          go_wp2
          first | go_end0 | ((try simp only [Exit.inBlock, Exit.then]); refine bodyPost_ret (results_none rfl _ _ _) rfl ?_)
          exact ⟨rfl, hJ.drew⟩
        | false =>
          cases hp3 : (e.pid == control) with
          | true =>
            unfold spawnedS spawnedG badP
            dsimp only
            rw [hp1, hp2, hp3]
            go_enter Try.func47, Try.ntmps47
            go_wp2
            go_region_held3 (fun w' => w'.cell? ⟨b, 33, none⟩ = some (.int .i64 8) ∧ w'.cell? ⟨b, 42, none⟩ = some (.int .i64 e.pid)) (exact ⟨kk33, kk42⟩) (fail)
            go_wp2
            first | go_end0 | ((try simp only [Exit.inBlock, Exit.then]); refine bodyPost_ret (results_none rfl _ _ _) rfl ?_)
            exact ⟨rfl, hJ.drew⟩
          | false =>
            unfold spawnedS spawnedG badP
            dsimp only
            rw [hp1, hp2, hp3]
            go_enter Try.func47, Try.ntmps47
            go_wp2
            go_region_held3 (fun w' => w'.cell? ⟨b, 33, none⟩ = some (.int .i64 8) ∧ w'.cell? ⟨b, 42, none⟩ = some (.int .i64 e.pid)) (exact ⟨kk33, kk42⟩) (fail)
            go_wp2
            first | go_end0 | ((try simp only [Exit.inBlock, Exit.then]); refine bodyPost_ret (results_none rfl _ _ _) rfl ?_)
            exact ⟨rfl, hJ.drew⟩
    · clear h1 h2
      obtain ⟨vs0, vo0, hc0⟩ := hI.cs
      have fr0 := hc0.fr
      have k400 : W.cell? ⟨b, 40, none⟩ = some (.bool true) := hc0.c40
      have k330 : W.cell? ⟨b, 33, none⟩ = some (.int .i64 9) := hc0.c33
      have k340 : W.cell? ⟨b, 34, none⟩ = some (.int .i64 main) := hc0.c34
      have k350 : W.cell? ⟨b, 35, none⟩ = some (.int .i64 control) := hc0.c35
      have k110 : W.cell? ⟨b, 11, none⟩ = some (.int .i64 e.typ) := hc0.c11
      clear hc0
      obtain ⟨vsJ, voJ, hcJ⟩ := hJ.drew.cs
      have kk34 := hcJ.c34
      have kk35 := hcJ.c35
      have kk33 := hcJ.c33
      have kk42 := hcJ.c42
      have kk11 := hcJ.c11
      have kkf := hcJ.fr
      clear hcJ
      cases hp1 : decide (e.pid < 2) with
      | true =>
        unfold spawnedS spawnedG badP
        dsimp only
        rw [hp1]
        go_enter Try.func47, Try.ntmps47
        go_wp2
        go_region_held3 (fun w' => w'.cell? ⟨b, 33, none⟩ = some (.int .i64 9) ∧ w'.cell? ⟨b, 42, none⟩ = some (.int .i64 e.pid)) (exact ⟨kk33, kk42⟩) (fail)
        go_wp2
        first | go_end0 | ((try simp only [Exit.inBlock, Exit.then]); refine bodyPost_ret (results_none rfl _ _ _) rfl ?_)
        exact ⟨rfl, hJ.drew⟩
      | false =>
        cases hp2 : (e.pid == main) with
        | true =>
          unfold spawnedS spawnedG badP
          dsimp only
          rw [hp1, hp2]
          go_enter Try.func47, Try.ntmps47
          go_wp2
          go_region_held3 (fun w' => w'.cell? ⟨b, 33, none⟩ = some (.int .i64 9) ∧ w'.cell? ⟨b, 42, none⟩ = some (.int .i64 e.pid)) (exact ⟨kk33, kk42⟩) (fail)
          go_wp2
          first | go_end0 | ((try simp only [Exit.inBlock, Exit.then]); refine bodyPost_ret (results_none rfl _ _ _) rfl ?_)
          exact ⟨rfl, hJ.drew⟩
        | false =>
          cases hp3 : (e.pid == control) with
          | true =>
            unfold spawnedS spawnedG badP
            dsimp only
            rw [hp1, hp2, hp3]
            go_enter Try.func47, Try.ntmps47
            go_wp2
            go_region_held3 (fun w' => w'.cell? ⟨b, 33, none⟩ = some (.int .i64 9) ∧ w'.cell? ⟨b, 42, none⟩ = some (.int .i64 e.pid)) (exact ⟨kk33, kk42⟩) (fail)
            go_wp2
            first | go_end0 | ((try simp only [Exit.inBlock, Exit.then]); refine bodyPost_ret (results_none rfl _ _ _) rfl ?_)
            exact ⟨rfl, hJ.drew⟩
          | false =>
            unfold spawnedS spawnedG badP
            dsimp only
            rw [hp1, hp2, hp3]
            go_enter Try.func47, Try.ntmps47
            go_wp2
            go_region_held3 (fun w' => w'.cell? ⟨b, 33, none⟩ = some (.int .i64 9) ∧ w'.cell? ⟨b, 42, none⟩ = some (.int .i64 e.pid)) (exact ⟨kk33, kk42⟩) (fail)
            go_wp2
            first | go_end0 | ((try simp only [Exit.inBlock, Exit.then]); refine bodyPost_ret (results_none rfl _ _ _) rfl ?_)
            exact ⟨rfl, hJ.drew⟩
    · clear h1 h2
      obtain ⟨vs0, vo0, hc0⟩ := hI.cs
      have fr0 := hc0.fr
      have k400 : W.cell? ⟨b, 40, none⟩ = some (.bool true) := hc0.c40
      have k330 : W.cell? ⟨b, 33, none⟩ = some (.int .i64 10) := hc0.c33
      have k340 : W.cell? ⟨b, 34, none⟩ = some (.int .i64 main) := hc0.c34
      have k350 : W.cell? ⟨b, 35, none⟩ = some (.int .i64 control) := hc0.c35
      have k110 : W.cell? ⟨b, 11, none⟩ = some (.int .i64 e.typ) := hc0.c11
      clear hc0
      obtain ⟨vsJ, voJ, hcJ⟩ := hJ.drew.cs
      have kk34 := hcJ.c34
      have kk35 := hcJ.c35
      have kk33 := hcJ.c33
      have kk42 := hcJ.c42
      have kk11 := hcJ.c11
      have kkf := hcJ.fr
      clear hcJ
      cases hp1 : decide (e.pid < 2) with
      | true =>
        unfold spawnedS spawnedG badP
        dsimp only
        rw [hp1]
        go_enter Try.func47, Try.ntmps47
        go_wp2
        go_region_held3 (fun w' => w'.cell? ⟨b, 33, none⟩ = some (.int .i64 10) ∧ w'.cell? ⟨b, 42, none⟩ = some (.int .i64 e.pid)) (exact ⟨kk33, kk42⟩) (fail)
        go_wp2
        first | go_end0 | ((try simp only [Exit.inBlock, Exit.then]); refine bodyPost_ret (results_none rfl _ _ _) rfl ?_)
        exact ⟨rfl, hJ.drew⟩
      | false =>
        cases hp2 : (e.pid == main) with
        | true =>
          unfold spawnedS spawnedG badP
          dsimp only
          rw [hp1, hp2]
          go_enter Try.func47, Try.ntmps47
          go_wp2
          go_region_held3 (fun w' => w'.cell? ⟨b, 33, none⟩ = some (.int .i64 10) ∧ w'.cell? ⟨b, 42, none⟩ = some (.int .i64 e.pid)) (exact ⟨kk33, kk42⟩) (fail)
          go_wp2
          first | go_end0 | ((try simp only [Exit.inBlock, Exit.then]); refine bodyPost_ret (results_none rfl _ _ _) rfl ?_)
          exact ⟨rfl, hJ.drew⟩
        | false =>
          cases hp3 : (e.pid == control) with
          | true =>
            unfold spawnedS spawnedG badP
            dsimp only
            rw [hp1, hp2, hp3]
            go_enter Try.func47, Try.ntmps47
            go_wp2
            go_region_held3 (fun w' => w'.cell? ⟨b, 33, none⟩ = some (.int .i64 10) ∧ w'.cell? ⟨b, 42, none⟩ = some (.int .i64 e.pid)) (exact ⟨kk33, kk42⟩) (fail)
            go_wp2
            first | go_end0 | ((try simp only [Exit.inBlock, Exit.then]); refine bodyPost_ret (results_none rfl _ _ _) rfl ?_)
            exact ⟨rfl, hJ.drew⟩
          | false =>
            unfold spawnedS spawnedG badP
            dsimp only
            rw [hp1, hp2, hp3]
            go_enter Try.func47, Try.ntmps47
            go_wp2
            go_region_held3 (fun w' => w'.cell? ⟨b, 33, none⟩ = some (.int .i64 10) ∧ w'.cell? ⟨b, 42, none⟩ = some (.int .i64 e.pid)) (exact ⟨kk33, kk42⟩) (fail)
            go_wp2
            first | go_end0 | ((try simp only [Exit.inBlock, Exit.then]); refine bodyPost_ret (results_none rfl _ _ _) rfl ?_)
            exact ⟨rfl, hJ.drew⟩
end Go.Proofs.Ytnoddedgkgkfhaa.Svc
