/- What an automaton is told, all kinds. -/
import Derived.Test.YtnoddedgkgkfhaaSvcI
namespace Go.Proofs.Ytnoddedgkgkfhaa.Svc
open Go.RowKit Go.Proofs.YtnoddedgkgkfhaaW.PrintWords Go.Proofs.YtnoddedgkgkfhaaW.PrintLast
attribute [local go_sem] Oper.semAt_some
set_option linter.unusedVariables false
def exitS (e : En) (s : S) : S :=
  if decide (e.pid ≤ 0) = true then s
  else if (e.pid == s.control) = true then overS e (controlledS e s) (s.sub == 7 || s.sub == 8)
  else if (e.pid == s.main) = true then overS e (mainedS e s) (s.sub == 7 || s.sub == 8)
  else s
def timeS (e : En) (s : S) : S :=
  if (s.sub == 2 || s.sub == 3) = true then failsS e s 3
  else if (s.sub == 6) = true then termsS e s 3
  else if (s.sub == 7) = true then killsS e (timerS { s with sub := 8 } (afterS e e.tsec)) 9
  else if (s.sub == 8) = true then endsS e (spoilsS s 3)
  else if (s.sub == 10) = true then startS e s
  else s
def emptyS (e : En) (s : S) : S :=
  if (s.sub == 7 || s.sub == 8) = true then endsS e s
  else if (s.sub == 4 && e.typ == 3) = true then stopsS e { s with next := 0 }
  else s
def readyB (e : En) : Bool := e.text.toList == [82, 69, 65, 68, 89, 61, 49]
def watchB (e : En) : Bool := e.text.toList == [87, 65, 84, 67, 72, 68, 79, 71, 61, 49]
def noteS (e : En) (s : S) : S :=
  if (decide (e.pid ≤ 0) || e.pid != s.main) = true then s
  else if (readyB e && s.sub == 3 && e.typ == 5) = true then startedS e s
  else if (watchB e && s.sub == 4) = true then watchS e s (afterS e e.wdog)
  else s
variable {w0 W : World} {b : Nat} {e : En} {s : S}
set_option maxRecDepth 100000
set_option maxHeartbeats 8000000
theorem over_calls (hI : Inv w0 W b e s) (ending : Bool) (hn : ending = true → s.out.length ≤ 990) :
    Calls Try.prog 54 #[.pointer (some ⟨b, 0, none⟩), .bool ending] W fun e' W' => e' = .returned (.tuple #[]) ∧ Inv w0 W' b e (overS e s ending) := by
  unfold overS
  cases ending with
  | false =>
    rw [Bool.false_and, if_neg (by decide)]
    clear hn
    go_enter Try.func54, Try.ntmps54
    go_wp2
    first | go_end0 | ((try simp only [Exit.inBlock, Exit.then]); refine bodyPost_ret (results_none rfl _ _ _) rfl ?_)
    exact ⟨rfl, hI⟩
  | true =>
    have hl := hn rfl
    clear hn
    cases ha : aloneS e s with
    | false =>
      rw [Bool.true_and, if_neg (by decide)]
      go_enter Try.func54, Try.ntmps54
      go_wp2_with (first | (go_at_call 64; refine (alone_calls hI).mono ?_; rintro e' w1 ⟨rfl, hI1⟩))
      first | go_end0 | ((try simp only [Exit.inBlock, Exit.then]); refine bodyPost_ret (results_none rfl _ _ _) rfl ?_)
      exact ⟨rfl, hI1⟩
    | true =>
      rw [Bool.true_and, if_pos rfl]
      go_enter Try.func54, Try.ntmps54
      go_wp2_with (first | (go_at_call 64; refine (alone_calls hI).mono ?_; rintro e' w1 ⟨rfl, hI1⟩) | (go_at_call 63; refine (ends_calls hI1 hl).mono ?_; rintro e' w2 ⟨rfl, hI2⟩))
      first | go_end0 | ((try simp only [Exit.inBlock, Exit.then]); refine bodyPost_ret (results_none rfl _ _ _) rfl ?_)
      exact ⟨rfl, hI2⟩
theorem exit_calls (hk : Ok w0 b e) (hI : Inv w0 W b e s) (h1 : 1 ≤ s.sub) (h2 : s.sub ≤ 10) (hn0 : 0 ≤ s.next) (hn12 : s.next ≤ 12) (hn : s.out.length ≤ 930) :
    Calls Try.prog 42 #[.pointer (some ⟨b, 0, none⟩)] W fun e' W' => e' = .returned (.tuple #[]) ∧ Inv w0 W' b e (exitS e s) := by
  obtain ⟨sub, main, control, next, starts, stopping, result, waiting, out⟩ := s
  dsimp only at *
  have hl9 : out.length ≤ 990 := Nat.le_trans hn (by decide)
  rcases sub_cases h1 h2 with rfl | rfl | rfl | rfl | rfl | rfl | rfl | rfl | rfl | rfl
  · obtain ⟨vs0, vo0, hc0⟩ := hI.cs
    have fr0 := hc0.fr
    have k330 : W.cell? ⟨b, 33, none⟩ = some (.int .i64 1) := hc0.c33
    have k340 : W.cell? ⟨b, 34, none⟩ = some (.int .i64 main) := hc0.c34
    have k350 : W.cell? ⟨b, 35, none⟩ = some (.int .i64 control) := hc0.c35
    have k420 : W.cell? ⟨b, 42, none⟩ = some (.int .i64 e.pid) := hc0.c42
    clear hc0
    cases hp1 : decide (e.pid ≤ 0) with
    | true =>
      unfold exitS
      dsimp only
      rw [hp1]
      go_enter Try.func42, Try.ntmps42
      go_wp2
      first | go_end0 | ((try simp only [Exit.inBlock, Exit.then]); refine bodyPost_ret (results_none rfl _ _ _) rfl ?_)
      exact ⟨rfl, hI⟩
    | false =>
      cases hp2 : (e.pid == control) with
      | true =>
        unfold exitS
        dsimp only
        rw [hp1, hp2]
        have HC := controlled_calls hk hI h1 h2 hn0 hn12 hn
        clear h1 h2 hn0 hn12
        go_enter Try.func42, Try.ntmps42
        go_wp2_with (first | (go_at_call 53; refine HC.mono ?_; rintro e' w1 ⟨rfl, hI1⟩) | (go_at_call 54; refine (over_calls hI1 false (fun h => nomatch h)).mono ?_; rintro e' w2 ⟨rfl, hI2⟩))
        first | go_end0 | ((try simp only [Exit.inBlock, Exit.then]); refine bodyPost_ret (results_none rfl _ _ _) rfl ?_)
        exact ⟨rfl, hI2⟩
      | false =>
        cases hp3 : (e.pid == main) with
        | true =>
          unfold exitS
          dsimp only
          rw [hp1, hp2, hp3]
          have HC := mained_calls hk hI h1 h2 hn0 hn12 hn
          clear h1 h2 hn0 hn12
          go_enter Try.func42, Try.ntmps42
          go_wp2_with (first | (go_at_call 55; refine HC.mono ?_; rintro e' w1 ⟨rfl, hI1⟩) | (go_at_call 54; refine (over_calls hI1 false (fun h => nomatch h)).mono ?_; rintro e' w2 ⟨rfl, hI2⟩))
          first | go_end0 | ((try simp only [Exit.inBlock, Exit.then]); refine bodyPost_ret (results_none rfl _ _ _) rfl ?_)
          exact ⟨rfl, hI2⟩
        | false =>
          unfold exitS
          dsimp only
          rw [hp1, hp2, hp3]
          go_enter Try.func42, Try.ntmps42
          go_wp2
          first | go_end0 | ((try simp only [Exit.inBlock, Exit.then]); refine bodyPost_ret (results_none rfl _ _ _) rfl ?_)
          exact ⟨rfl, hI⟩
  · obtain ⟨vs0, vo0, hc0⟩ := hI.cs
    have fr0 := hc0.fr
    have k330 : W.cell? ⟨b, 33, none⟩ = some (.int .i64 2) := hc0.c33
    have k340 : W.cell? ⟨b, 34, none⟩ = some (.int .i64 main) := hc0.c34
    have k350 : W.cell? ⟨b, 35, none⟩ = some (.int .i64 control) := hc0.c35
    have k420 : W.cell? ⟨b, 42, none⟩ = some (.int .i64 e.pid) := hc0.c42
    clear hc0
    cases hp1 : decide (e.pid ≤ 0) with
    | true =>
      unfold exitS
      dsimp only
      rw [hp1]
      go_enter Try.func42, Try.ntmps42
      go_wp2
      first | go_end0 | ((try simp only [Exit.inBlock, Exit.then]); refine bodyPost_ret (results_none rfl _ _ _) rfl ?_)
      exact ⟨rfl, hI⟩
    | false =>
      cases hp2 : (e.pid == control) with
      | true =>
        unfold exitS
        dsimp only
        rw [hp1, hp2]
        have HC := controlled_calls hk hI h1 h2 hn0 hn12 hn
        clear h1 h2 hn0 hn12
        go_enter Try.func42, Try.ntmps42
        go_wp2_with (first | (go_at_call 53; refine HC.mono ?_; rintro e' w1 ⟨rfl, hI1⟩) | (go_at_call 54; refine (over_calls hI1 false (fun h => nomatch h)).mono ?_; rintro e' w2 ⟨rfl, hI2⟩))
        first | go_end0 | ((try simp only [Exit.inBlock, Exit.then]); refine bodyPost_ret (results_none rfl _ _ _) rfl ?_)
        exact ⟨rfl, hI2⟩
      | false =>
        cases hp3 : (e.pid == main) with
        | true =>
          unfold exitS
          dsimp only
          rw [hp1, hp2, hp3]
          have HC := mained_calls hk hI h1 h2 hn0 hn12 hn
          clear h1 h2 hn0 hn12
          go_enter Try.func42, Try.ntmps42
          go_wp2_with (first | (go_at_call 55; refine HC.mono ?_; rintro e' w1 ⟨rfl, hI1⟩) | (go_at_call 54; refine (over_calls hI1 false (fun h => nomatch h)).mono ?_; rintro e' w2 ⟨rfl, hI2⟩))
          first | go_end0 | ((try simp only [Exit.inBlock, Exit.then]); refine bodyPost_ret (results_none rfl _ _ _) rfl ?_)
          exact ⟨rfl, hI2⟩
        | false =>
          unfold exitS
          dsimp only
          rw [hp1, hp2, hp3]
          go_enter Try.func42, Try.ntmps42
          go_wp2
          first | go_end0 | ((try simp only [Exit.inBlock, Exit.then]); refine bodyPost_ret (results_none rfl _ _ _) rfl ?_)
          exact ⟨rfl, hI⟩
  · obtain ⟨vs0, vo0, hc0⟩ := hI.cs
    have fr0 := hc0.fr
    have k330 : W.cell? ⟨b, 33, none⟩ = some (.int .i64 3) := hc0.c33
    have k340 : W.cell? ⟨b, 34, none⟩ = some (.int .i64 main) := hc0.c34
    have k350 : W.cell? ⟨b, 35, none⟩ = some (.int .i64 control) := hc0.c35
    have k420 : W.cell? ⟨b, 42, none⟩ = some (.int .i64 e.pid) := hc0.c42
    clear hc0
    cases hp1 : decide (e.pid ≤ 0) with
    | true =>
      unfold exitS
      dsimp only
      rw [hp1]
      go_enter Try.func42, Try.ntmps42
      go_wp2
      first | go_end0 | ((try simp only [Exit.inBlock, Exit.then]); refine bodyPost_ret (results_none rfl _ _ _) rfl ?_)
      exact ⟨rfl, hI⟩
    | false =>
      cases hp2 : (e.pid == control) with
      | true =>
        unfold exitS
        dsimp only
        rw [hp1, hp2]
        have HC := controlled_calls hk hI h1 h2 hn0 hn12 hn
        clear h1 h2 hn0 hn12
        go_enter Try.func42, Try.ntmps42
        go_wp2_with (first | (go_at_call 53; refine HC.mono ?_; rintro e' w1 ⟨rfl, hI1⟩) | (go_at_call 54; refine (over_calls hI1 false (fun h => nomatch h)).mono ?_; rintro e' w2 ⟨rfl, hI2⟩))
        first | go_end0 | ((try simp only [Exit.inBlock, Exit.then]); refine bodyPost_ret (results_none rfl _ _ _) rfl ?_)
        exact ⟨rfl, hI2⟩
      | false =>
        cases hp3 : (e.pid == main) with
        | true =>
          unfold exitS
          dsimp only
          rw [hp1, hp2, hp3]
          have HC := mained_calls hk hI h1 h2 hn0 hn12 hn
          clear h1 h2 hn0 hn12
          go_enter Try.func42, Try.ntmps42
          go_wp2_with (first | (go_at_call 55; refine HC.mono ?_; rintro e' w1 ⟨rfl, hI1⟩) | (go_at_call 54; refine (over_calls hI1 false (fun h => nomatch h)).mono ?_; rintro e' w2 ⟨rfl, hI2⟩))
          first | go_end0 | ((try simp only [Exit.inBlock, Exit.then]); refine bodyPost_ret (results_none rfl _ _ _) rfl ?_)
          exact ⟨rfl, hI2⟩
        | false =>
          unfold exitS
          dsimp only
          rw [hp1, hp2, hp3]
          go_enter Try.func42, Try.ntmps42
          go_wp2
          first | go_end0 | ((try simp only [Exit.inBlock, Exit.then]); refine bodyPost_ret (results_none rfl _ _ _) rfl ?_)
          exact ⟨rfl, hI⟩
  · obtain ⟨vs0, vo0, hc0⟩ := hI.cs
    have fr0 := hc0.fr
    have k330 : W.cell? ⟨b, 33, none⟩ = some (.int .i64 4) := hc0.c33
    have k340 : W.cell? ⟨b, 34, none⟩ = some (.int .i64 main) := hc0.c34
    have k350 : W.cell? ⟨b, 35, none⟩ = some (.int .i64 control) := hc0.c35
    have k420 : W.cell? ⟨b, 42, none⟩ = some (.int .i64 e.pid) := hc0.c42
    clear hc0
    cases hp1 : decide (e.pid ≤ 0) with
    | true =>
      unfold exitS
      dsimp only
      rw [hp1]
      go_enter Try.func42, Try.ntmps42
      go_wp2
      first | go_end0 | ((try simp only [Exit.inBlock, Exit.then]); refine bodyPost_ret (results_none rfl _ _ _) rfl ?_)
      exact ⟨rfl, hI⟩
    | false =>
      cases hp2 : (e.pid == control) with
      | true =>
        unfold exitS
        dsimp only
        rw [hp1, hp2]
        have HC := controlled_calls hk hI h1 h2 hn0 hn12 hn
        clear h1 h2 hn0 hn12
        go_enter Try.func42, Try.ntmps42
        go_wp2_with (first | (go_at_call 53; refine HC.mono ?_; rintro e' w1 ⟨rfl, hI1⟩) | (go_at_call 54; refine (over_calls hI1 false (fun h => nomatch h)).mono ?_; rintro e' w2 ⟨rfl, hI2⟩))
        first | go_end0 | ((try simp only [Exit.inBlock, Exit.then]); refine bodyPost_ret (results_none rfl _ _ _) rfl ?_)
        exact ⟨rfl, hI2⟩
      | false =>
        cases hp3 : (e.pid == main) with
        | true =>
          unfold exitS
          dsimp only
          rw [hp1, hp2, hp3]
          have HC := mained_calls hk hI h1 h2 hn0 hn12 hn
          clear h1 h2 hn0 hn12
          go_enter Try.func42, Try.ntmps42
          go_wp2_with (first | (go_at_call 55; refine HC.mono ?_; rintro e' w1 ⟨rfl, hI1⟩) | (go_at_call 54; refine (over_calls hI1 false (fun h => nomatch h)).mono ?_; rintro e' w2 ⟨rfl, hI2⟩))
          first | go_end0 | ((try simp only [Exit.inBlock, Exit.then]); refine bodyPost_ret (results_none rfl _ _ _) rfl ?_)
          exact ⟨rfl, hI2⟩
        | false =>
          unfold exitS
          dsimp only
          rw [hp1, hp2, hp3]
          go_enter Try.func42, Try.ntmps42
          go_wp2
          first | go_end0 | ((try simp only [Exit.inBlock, Exit.then]); refine bodyPost_ret (results_none rfl _ _ _) rfl ?_)
          exact ⟨rfl, hI⟩
  · obtain ⟨vs0, vo0, hc0⟩ := hI.cs
    have fr0 := hc0.fr
    have k330 : W.cell? ⟨b, 33, none⟩ = some (.int .i64 5) := hc0.c33
    have k340 : W.cell? ⟨b, 34, none⟩ = some (.int .i64 main) := hc0.c34
    have k350 : W.cell? ⟨b, 35, none⟩ = some (.int .i64 control) := hc0.c35
    have k420 : W.cell? ⟨b, 42, none⟩ = some (.int .i64 e.pid) := hc0.c42
    clear hc0
    cases hp1 : decide (e.pid ≤ 0) with
    | true =>
      unfold exitS
      dsimp only
      rw [hp1]
      go_enter Try.func42, Try.ntmps42
      go_wp2
      first | go_end0 | ((try simp only [Exit.inBlock, Exit.then]); refine bodyPost_ret (results_none rfl _ _ _) rfl ?_)
      exact ⟨rfl, hI⟩
    | false =>
      cases hp2 : (e.pid == control) with
      | true =>
        unfold exitS
        dsimp only
        rw [hp1, hp2]
        have HC := controlled_calls hk hI h1 h2 hn0 hn12 hn
        clear h1 h2 hn0 hn12
        go_enter Try.func42, Try.ntmps42
        go_wp2_with (first | (go_at_call 53; refine HC.mono ?_; rintro e' w1 ⟨rfl, hI1⟩) | (go_at_call 54; refine (over_calls hI1 false (fun h => nomatch h)).mono ?_; rintro e' w2 ⟨rfl, hI2⟩))
        first | go_end0 | ((try simp only [Exit.inBlock, Exit.then]); refine bodyPost_ret (results_none rfl _ _ _) rfl ?_)
        exact ⟨rfl, hI2⟩
      | false =>
        cases hp3 : (e.pid == main) with
        | true =>
          unfold exitS
          dsimp only
          rw [hp1, hp2, hp3]
          have HC := mained_calls hk hI h1 h2 hn0 hn12 hn
          clear h1 h2 hn0 hn12
          go_enter Try.func42, Try.ntmps42
          go_wp2_with (first | (go_at_call 55; refine HC.mono ?_; rintro e' w1 ⟨rfl, hI1⟩) | (go_at_call 54; refine (over_calls hI1 false (fun h => nomatch h)).mono ?_; rintro e' w2 ⟨rfl, hI2⟩))
          first | go_end0 | ((try simp only [Exit.inBlock, Exit.then]); refine bodyPost_ret (results_none rfl _ _ _) rfl ?_)
          exact ⟨rfl, hI2⟩
        | false =>
          unfold exitS
          dsimp only
          rw [hp1, hp2, hp3]
          go_enter Try.func42, Try.ntmps42
          go_wp2
          first | go_end0 | ((try simp only [Exit.inBlock, Exit.then]); refine bodyPost_ret (results_none rfl _ _ _) rfl ?_)
          exact ⟨rfl, hI⟩
  · obtain ⟨vs0, vo0, hc0⟩ := hI.cs
    have fr0 := hc0.fr
    have k330 : W.cell? ⟨b, 33, none⟩ = some (.int .i64 6) := hc0.c33
    have k340 : W.cell? ⟨b, 34, none⟩ = some (.int .i64 main) := hc0.c34
    have k350 : W.cell? ⟨b, 35, none⟩ = some (.int .i64 control) := hc0.c35
    have k420 : W.cell? ⟨b, 42, none⟩ = some (.int .i64 e.pid) := hc0.c42
    clear hc0
    cases hp1 : decide (e.pid ≤ 0) with
    | true =>
      unfold exitS
      dsimp only
      rw [hp1]
      go_enter Try.func42, Try.ntmps42
      go_wp2
      first | go_end0 | ((try simp only [Exit.inBlock, Exit.then]); refine bodyPost_ret (results_none rfl _ _ _) rfl ?_)
      exact ⟨rfl, hI⟩
    | false =>
      cases hp2 : (e.pid == control) with
      | true =>
        unfold exitS
        dsimp only
        rw [hp1, hp2]
        have HC := controlled_calls hk hI h1 h2 hn0 hn12 hn
        clear h1 h2 hn0 hn12
        go_enter Try.func42, Try.ntmps42
        go_wp2_with (first | (go_at_call 53; refine HC.mono ?_; rintro e' w1 ⟨rfl, hI1⟩) | (go_at_call 54; refine (over_calls hI1 false (fun h => nomatch h)).mono ?_; rintro e' w2 ⟨rfl, hI2⟩))
        first | go_end0 | ((try simp only [Exit.inBlock, Exit.then]); refine bodyPost_ret (results_none rfl _ _ _) rfl ?_)
        exact ⟨rfl, hI2⟩
      | false =>
        cases hp3 : (e.pid == main) with
        | true =>
          unfold exitS
          dsimp only
          rw [hp1, hp2, hp3]
          have HC := mained_calls hk hI h1 h2 hn0 hn12 hn
          clear h1 h2 hn0 hn12
          go_enter Try.func42, Try.ntmps42
          go_wp2_with (first | (go_at_call 55; refine HC.mono ?_; rintro e' w1 ⟨rfl, hI1⟩) | (go_at_call 54; refine (over_calls hI1 false (fun h => nomatch h)).mono ?_; rintro e' w2 ⟨rfl, hI2⟩))
          first | go_end0 | ((try simp only [Exit.inBlock, Exit.then]); refine bodyPost_ret (results_none rfl _ _ _) rfl ?_)
          exact ⟨rfl, hI2⟩
        | false =>
          unfold exitS
          dsimp only
          rw [hp1, hp2, hp3]
          go_enter Try.func42, Try.ntmps42
          go_wp2
          first | go_end0 | ((try simp only [Exit.inBlock, Exit.then]); refine bodyPost_ret (results_none rfl _ _ _) rfl ?_)
          exact ⟨rfl, hI⟩
  · obtain ⟨vs0, vo0, hc0⟩ := hI.cs
    have fr0 := hc0.fr
    have k330 : W.cell? ⟨b, 33, none⟩ = some (.int .i64 7) := hc0.c33
    have k340 : W.cell? ⟨b, 34, none⟩ = some (.int .i64 main) := hc0.c34
    have k350 : W.cell? ⟨b, 35, none⟩ = some (.int .i64 control) := hc0.c35
    have k420 : W.cell? ⟨b, 42, none⟩ = some (.int .i64 e.pid) := hc0.c42
    clear hc0
    cases hp1 : decide (e.pid ≤ 0) with
    | true =>
      unfold exitS
      dsimp only
      rw [hp1]
      go_enter Try.func42, Try.ntmps42
      go_wp2
      first | go_end0 | ((try simp only [Exit.inBlock, Exit.then]); refine bodyPost_ret (results_none rfl _ _ _) rfl ?_)
      exact ⟨rfl, hI⟩
    | false =>
      cases hp2 : (e.pid == control) with
      | true =>
        unfold exitS
        dsimp only
        rw [hp1, hp2]
        have HC := controlled_calls hk hI h1 h2 hn0 hn12 hn
        clear h1 h2 hn0 hn12
        go_enter Try.func42, Try.ntmps42
        go_wp2_with (first | (go_at_call 53; refine HC.mono ?_; rintro e' w1 ⟨rfl, hI1⟩) | (go_at_call 54; refine (over_calls hI1 true (fun _ => hl9)).mono ?_; rintro e' w2 ⟨rfl, hI2⟩))
        first | go_end0 | ((try simp only [Exit.inBlock, Exit.then]); refine bodyPost_ret (results_none rfl _ _ _) rfl ?_)
        exact ⟨rfl, hI2⟩
      | false =>
        cases hp3 : (e.pid == main) with
        | true =>
          unfold exitS
          dsimp only
          rw [hp1, hp2, hp3]
          have HC := mained_calls hk hI h1 h2 hn0 hn12 hn
          clear h1 h2 hn0 hn12
          go_enter Try.func42, Try.ntmps42
          go_wp2_with (first | (go_at_call 55; refine HC.mono ?_; rintro e' w1 ⟨rfl, hI1⟩) | (go_at_call 54; refine (over_calls hI1 true (fun _ => hl9)).mono ?_; rintro e' w2 ⟨rfl, hI2⟩))
          first | go_end0 | ((try simp only [Exit.inBlock, Exit.then]); refine bodyPost_ret (results_none rfl _ _ _) rfl ?_)
          exact ⟨rfl, hI2⟩
        | false =>
          unfold exitS
          dsimp only
          rw [hp1, hp2, hp3]
          go_enter Try.func42, Try.ntmps42
          go_wp2
          first | go_end0 | ((try simp only [Exit.inBlock, Exit.then]); refine bodyPost_ret (results_none rfl _ _ _) rfl ?_)
          exact ⟨rfl, hI⟩
  · obtain ⟨vs0, vo0, hc0⟩ := hI.cs
    have fr0 := hc0.fr
    have k330 : W.cell? ⟨b, 33, none⟩ = some (.int .i64 8) := hc0.c33
    have k340 : W.cell? ⟨b, 34, none⟩ = some (.int .i64 main) := hc0.c34
    have k350 : W.cell? ⟨b, 35, none⟩ = some (.int .i64 control) := hc0.c35
    have k420 : W.cell? ⟨b, 42, none⟩ = some (.int .i64 e.pid) := hc0.c42
    clear hc0
    cases hp1 : decide (e.pid ≤ 0) with
    | true =>
      unfold exitS
      dsimp only
      rw [hp1]
      go_enter Try.func42, Try.ntmps42
      go_wp2
      first | go_end0 | ((try simp only [Exit.inBlock, Exit.then]); refine bodyPost_ret (results_none rfl _ _ _) rfl ?_)
      exact ⟨rfl, hI⟩
    | false =>
      cases hp2 : (e.pid == control) with
      | true =>
        unfold exitS
        dsimp only
        rw [hp1, hp2]
        have HC := controlled_calls hk hI h1 h2 hn0 hn12 hn
        clear h1 h2 hn0 hn12
        go_enter Try.func42, Try.ntmps42
        go_wp2_with (first | (go_at_call 53; refine HC.mono ?_; rintro e' w1 ⟨rfl, hI1⟩) | (go_at_call 54; refine (over_calls hI1 true (fun _ => hl9)).mono ?_; rintro e' w2 ⟨rfl, hI2⟩))
        first | go_end0 | ((try simp only [Exit.inBlock, Exit.then]); refine bodyPost_ret (results_none rfl _ _ _) rfl ?_)
        exact ⟨rfl, hI2⟩
      | false =>
        cases hp3 : (e.pid == main) with
        | true =>
          unfold exitS
          dsimp only
          rw [hp1, hp2, hp3]
          have HC := mained_calls hk hI h1 h2 hn0 hn12 hn
          clear h1 h2 hn0 hn12
          go_enter Try.func42, Try.ntmps42
          go_wp2_with (first | (go_at_call 55; refine HC.mono ?_; rintro e' w1 ⟨rfl, hI1⟩) | (go_at_call 54; refine (over_calls hI1 true (fun _ => hl9)).mono ?_; rintro e' w2 ⟨rfl, hI2⟩))
          first | go_end0 | ((try simp only [Exit.inBlock, Exit.then]); refine bodyPost_ret (results_none rfl _ _ _) rfl ?_)
          exact ⟨rfl, hI2⟩
        | false =>
          unfold exitS
          dsimp only
          rw [hp1, hp2, hp3]
          go_enter Try.func42, Try.ntmps42
          go_wp2
          first | go_end0 | ((try simp only [Exit.inBlock, Exit.then]); refine bodyPost_ret (results_none rfl _ _ _) rfl ?_)
          exact ⟨rfl, hI⟩
  · obtain ⟨vs0, vo0, hc0⟩ := hI.cs
    have fr0 := hc0.fr
    have k330 : W.cell? ⟨b, 33, none⟩ = some (.int .i64 9) := hc0.c33
    have k340 : W.cell? ⟨b, 34, none⟩ = some (.int .i64 main) := hc0.c34
    have k350 : W.cell? ⟨b, 35, none⟩ = some (.int .i64 control) := hc0.c35
    have k420 : W.cell? ⟨b, 42, none⟩ = some (.int .i64 e.pid) := hc0.c42
    clear hc0
    cases hp1 : decide (e.pid ≤ 0) with
    | true =>
      unfold exitS
      dsimp only
      rw [hp1]
      go_enter Try.func42, Try.ntmps42
      go_wp2
      first | go_end0 | ((try simp only [Exit.inBlock, Exit.then]); refine bodyPost_ret (results_none rfl _ _ _) rfl ?_)
      exact ⟨rfl, hI⟩
    | false =>
      cases hp2 : (e.pid == control) with
      | true =>
        unfold exitS
        dsimp only
        rw [hp1, hp2]
        have HC := controlled_calls hk hI h1 h2 hn0 hn12 hn
        clear h1 h2 hn0 hn12
        go_enter Try.func42, Try.ntmps42
        go_wp2_with (first | (go_at_call 53; refine HC.mono ?_; rintro e' w1 ⟨rfl, hI1⟩) | (go_at_call 54; refine (over_calls hI1 false (fun h => nomatch h)).mono ?_; rintro e' w2 ⟨rfl, hI2⟩))
        first | go_end0 | ((try simp only [Exit.inBlock, Exit.then]); refine bodyPost_ret (results_none rfl _ _ _) rfl ?_)
        exact ⟨rfl, hI2⟩
      | false =>
        cases hp3 : (e.pid == main) with
        | true =>
          unfold exitS
          dsimp only
          rw [hp1, hp2, hp3]
          have HC := mained_calls hk hI h1 h2 hn0 hn12 hn
          clear h1 h2 hn0 hn12
          go_enter Try.func42, Try.ntmps42
          go_wp2_with (first | (go_at_call 55; refine HC.mono ?_; rintro e' w1 ⟨rfl, hI1⟩) | (go_at_call 54; refine (over_calls hI1 false (fun h => nomatch h)).mono ?_; rintro e' w2 ⟨rfl, hI2⟩))
          first | go_end0 | ((try simp only [Exit.inBlock, Exit.then]); refine bodyPost_ret (results_none rfl _ _ _) rfl ?_)
          exact ⟨rfl, hI2⟩
        | false =>
          unfold exitS
          dsimp only
          rw [hp1, hp2, hp3]
          go_enter Try.func42, Try.ntmps42
          go_wp2
          first | go_end0 | ((try simp only [Exit.inBlock, Exit.then]); refine bodyPost_ret (results_none rfl _ _ _) rfl ?_)
          exact ⟨rfl, hI⟩
  · obtain ⟨vs0, vo0, hc0⟩ := hI.cs
    have fr0 := hc0.fr
    have k330 : W.cell? ⟨b, 33, none⟩ = some (.int .i64 10) := hc0.c33
    have k340 : W.cell? ⟨b, 34, none⟩ = some (.int .i64 main) := hc0.c34
    have k350 : W.cell? ⟨b, 35, none⟩ = some (.int .i64 control) := hc0.c35
    have k420 : W.cell? ⟨b, 42, none⟩ = some (.int .i64 e.pid) := hc0.c42
    clear hc0
    cases hp1 : decide (e.pid ≤ 0) with
    | true =>
      unfold exitS
      dsimp only
      rw [hp1]
      go_enter Try.func42, Try.ntmps42
      go_wp2
      first | go_end0 | ((try simp only [Exit.inBlock, Exit.then]); refine bodyPost_ret (results_none rfl _ _ _) rfl ?_)
      exact ⟨rfl, hI⟩
    | false =>
      cases hp2 : (e.pid == control) with
      | true =>
        unfold exitS
        dsimp only
        rw [hp1, hp2]
        have HC := controlled_calls hk hI h1 h2 hn0 hn12 hn
        clear h1 h2 hn0 hn12
        go_enter Try.func42, Try.ntmps42
        go_wp2_with (first | (go_at_call 53; refine HC.mono ?_; rintro e' w1 ⟨rfl, hI1⟩) | (go_at_call 54; refine (over_calls hI1 false (fun h => nomatch h)).mono ?_; rintro e' w2 ⟨rfl, hI2⟩))
        first | go_end0 | ((try simp only [Exit.inBlock, Exit.then]); refine bodyPost_ret (results_none rfl _ _ _) rfl ?_)
        exact ⟨rfl, hI2⟩
      | false =>
        cases hp3 : (e.pid == main) with
        | true =>
          unfold exitS
          dsimp only
          rw [hp1, hp2, hp3]
          have HC := mained_calls hk hI h1 h2 hn0 hn12 hn
          clear h1 h2 hn0 hn12
          go_enter Try.func42, Try.ntmps42
          go_wp2_with (first | (go_at_call 55; refine HC.mono ?_; rintro e' w1 ⟨rfl, hI1⟩) | (go_at_call 54; refine (over_calls hI1 false (fun h => nomatch h)).mono ?_; rintro e' w2 ⟨rfl, hI2⟩))
          first | go_end0 | ((try simp only [Exit.inBlock, Exit.then]); refine bodyPost_ret (results_none rfl _ _ _) rfl ?_)
          exact ⟨rfl, hI2⟩
        | false =>
          unfold exitS
          dsimp only
          rw [hp1, hp2, hp3]
          go_enter Try.func42, Try.ntmps42
          go_wp2
          first | go_end0 | ((try simp only [Exit.inBlock, Exit.then]); refine bodyPost_ret (results_none rfl _ _ _) rfl ?_)
          exact ⟨rfl, hI⟩
theorem time_calls (hk : Ok w0 b e) (hI : Inv w0 W b e s) (h1 : 1 ≤ s.sub) (h2 : s.sub ≤ 10) (hs : s.starts.length ≤ 100) (hn : s.out.length ≤ 930) :
    Calls Try.prog 44 #[.pointer (some ⟨b, 0, none⟩)] W fun e' W' => e' = .returned (.tuple #[]) ∧ Inv w0 W' b e (timeS e s) := by
  obtain ⟨sub, main, control, next, starts, stopping, result, waiting, out⟩ := s
  dsimp only at *
  have hl7 : out.length ≤ 970 := Nat.le_trans hn (by decide)
  have hl8 : out.length ≤ 980 := Nat.le_trans hn (by decide)
  have hl9 : out.length ≤ 990 := Nat.le_trans hn (by decide)
  have hl10 : out.length ≤ 1000 := Nat.le_trans hn (by decide)
  rcases sub_cases h1 h2 with rfl | rfl | rfl | rfl | rfl | rfl | rfl | rfl | rfl | rfl
  · obtain ⟨vs0, vo0, hc0⟩ := hI.cs
    have fr0 := hc0.fr
    have k330 : W.cell? ⟨b, 33, none⟩ = some (.int .i64 1) := hc0.c33
    have k190 : W.cell? ⟨b, 19, none⟩ = some (.int .i64 e.tsec) := hc0.c19
    clear hc0
    clear h1 h2
    go_enter Try.func44, Try.ntmps44
    go_wp2
    first | go_end0 | ((try simp only [Exit.inBlock, Exit.then]); refine bodyPost_ret (results_none rfl _ _ _) rfl ?_)
    exact ⟨rfl, hI⟩
  · obtain ⟨vs0, vo0, hc0⟩ := hI.cs
    have fr0 := hc0.fr
    have k330 : W.cell? ⟨b, 33, none⟩ = some (.int .i64 2) := hc0.c33
    have k190 : W.cell? ⟨b, 19, none⟩ = some (.int .i64 e.tsec) := hc0.c19
    clear hc0
    clear h1 h2
    go_enter Try.func44, Try.ntmps44
    go_wp2_with (first | (go_at_call 59; refine (fails_calls hI 3 hl7).mono ?_; rintro e' w1 ⟨rfl, hI1⟩))
    first | go_end0 | ((try simp only [Exit.inBlock, Exit.then]); refine bodyPost_ret (results_none rfl _ _ _) rfl ?_)
    exact ⟨rfl, hI1⟩
  · obtain ⟨vs0, vo0, hc0⟩ := hI.cs
    have fr0 := hc0.fr
    have k330 : W.cell? ⟨b, 33, none⟩ = some (.int .i64 3) := hc0.c33
    have k190 : W.cell? ⟨b, 19, none⟩ = some (.int .i64 e.tsec) := hc0.c19
    clear hc0
    clear h1 h2
    go_enter Try.func44, Try.ntmps44
    go_wp2_with (first | (go_at_call 59; refine (fails_calls hI 3 hl7).mono ?_; rintro e' w1 ⟨rfl, hI1⟩))
    first | go_end0 | ((try simp only [Exit.inBlock, Exit.then]); refine bodyPost_ret (results_none rfl _ _ _) rfl ?_)
    exact ⟨rfl, hI1⟩
  · obtain ⟨vs0, vo0, hc0⟩ := hI.cs
    have fr0 := hc0.fr
    have k330 : W.cell? ⟨b, 33, none⟩ = some (.int .i64 4) := hc0.c33
    have k190 : W.cell? ⟨b, 19, none⟩ = some (.int .i64 e.tsec) := hc0.c19
    clear hc0
    clear h1 h2
    go_enter Try.func44, Try.ntmps44
    go_wp2
    first | go_end0 | ((try simp only [Exit.inBlock, Exit.then]); refine bodyPost_ret (results_none rfl _ _ _) rfl ?_)
    exact ⟨rfl, hI⟩
  · obtain ⟨vs0, vo0, hc0⟩ := hI.cs
    have fr0 := hc0.fr
    have k330 : W.cell? ⟨b, 33, none⟩ = some (.int .i64 5) := hc0.c33
    have k190 : W.cell? ⟨b, 19, none⟩ = some (.int .i64 e.tsec) := hc0.c19
    clear hc0
    clear h1 h2
    go_enter Try.func44, Try.ntmps44
    go_wp2
    first | go_end0 | ((try simp only [Exit.inBlock, Exit.then]); refine bodyPost_ret (results_none rfl _ _ _) rfl ?_)
    exact ⟨rfl, hI⟩
  · obtain ⟨vs0, vo0, hc0⟩ := hI.cs
    have fr0 := hc0.fr
    have k330 : W.cell? ⟨b, 33, none⟩ = some (.int .i64 6) := hc0.c33
    have k190 : W.cell? ⟨b, 19, none⟩ = some (.int .i64 e.tsec) := hc0.c19
    clear hc0
    clear h1 h2
    go_enter Try.func44, Try.ntmps44
    go_wp2_with (first | (go_at_call 45; refine (terms_calls hI 3 hl8).mono ?_; rintro e' w1 ⟨rfl, hI1⟩))
    first | go_end0 | ((try simp only [Exit.inBlock, Exit.then]); refine bodyPost_ret (results_none rfl _ _ _) rfl ?_)
    exact ⟨rfl, hI1⟩
  · obtain ⟨vs0, vo0, hc0⟩ := hI.cs
    have fr0 := hc0.fr
    have k330 : W.cell? ⟨b, 33, none⟩ = some (.int .i64 7) := hc0.c33
    have k190 : W.cell? ⟨b, 19, none⟩ = some (.int .i64 e.tsec) := hc0.c19
    clear hc0
    clear h1 h2
    go_enter Try.func44, Try.ntmps44
    go_wp2_with (first | (go_at_call 58; refine (after_calls (hI.set33 8) _).mono ?_; rintro e' w1 ⟨rfl, hI1⟩) | (go_at_call 60; refine (timer_calls hI1 _ hl10).mono ?_; rintro e' w2 ⟨rfl, hI2⟩) | (go_at_call 61; refine (kills_calls hI2 9 (by rw [timer_len]; exact Nat.le_trans (Nat.succ_le_succ hn) (by decide))).mono ?_; rintro e' w3 ⟨rfl, hI3⟩))
    first | go_end0 | ((try simp only [Exit.inBlock, Exit.then]); refine bodyPost_ret (results_none rfl _ _ _) rfl ?_)
    exact ⟨rfl, hI3⟩
  · obtain ⟨vs0, vo0, hc0⟩ := hI.cs
    have fr0 := hc0.fr
    have k330 : W.cell? ⟨b, 33, none⟩ = some (.int .i64 8) := hc0.c33
    have k190 : W.cell? ⟨b, 19, none⟩ = some (.int .i64 e.tsec) := hc0.c19
    clear hc0
    clear h1 h2
    go_enter Try.func44, Try.ntmps44
    go_wp2_with (first | (go_at_call 62; refine (spoils_calls hI 3).mono ?_; rintro e' w1 ⟨rfl, hI1⟩) | (go_at_call 63; refine (ends_calls hI1 (by rw [spoils_len]; exact hl9)).mono ?_; rintro e' w2 ⟨rfl, hI2⟩))
    first | go_end0 | ((try simp only [Exit.inBlock, Exit.then]); refine bodyPost_ret (results_none rfl _ _ _) rfl ?_)
    exact ⟨rfl, hI2⟩
  · obtain ⟨vs0, vo0, hc0⟩ := hI.cs
    have fr0 := hc0.fr
    have k330 : W.cell? ⟨b, 33, none⟩ = some (.int .i64 9) := hc0.c33
    have k190 : W.cell? ⟨b, 19, none⟩ = some (.int .i64 e.tsec) := hc0.c19
    clear hc0
    clear h1 h2
    go_enter Try.func44, Try.ntmps44
    go_wp2
    first | go_end0 | ((try simp only [Exit.inBlock, Exit.then]); refine bodyPost_ret (results_none rfl _ _ _) rfl ?_)
    exact ⟨rfl, hI⟩
  · obtain ⟨vs0, vo0, hc0⟩ := hI.cs
    have fr0 := hc0.fr
    have k330 : W.cell? ⟨b, 33, none⟩ = some (.int .i64 10) := hc0.c33
    have k190 : W.cell? ⟨b, 19, none⟩ = some (.int .i64 e.tsec) := hc0.c19
    clear hc0
    have HS := start_calls hk hI h1 h2 hs hn
    clear h1 h2
    go_enter Try.func44, Try.ntmps44
    go_wp2_with (first | (go_at_call 40; refine HS.mono ?_; rintro e' w1 ⟨rfl, hI1⟩))
    first | go_end0 | ((try simp only [Exit.inBlock, Exit.then]); refine bodyPost_ret (results_none rfl _ _ _) rfl ?_)
    exact ⟨rfl, hI1⟩
theorem empty_calls (hk : Ok w0 b e) (hI : Inv w0 W b e s) (h1 : 1 ≤ s.sub) (h2 : s.sub ≤ 10) (hn : s.out.length ≤ 930) :
    Calls Try.prog 46 #[.pointer (some ⟨b, 0, none⟩)] W fun e' W' => e' = .returned (.tuple #[]) ∧ Inv w0 W' b e (emptyS e s) := by
  obtain ⟨sub, main, control, next, starts, stopping, result, waiting, out⟩ := s
  dsimp only at *
  have hl7 : out.length ≤ 970 := Nat.le_trans hn (by decide)
  have hl9 : out.length ≤ 990 := Nat.le_trans hn (by decide)
  rcases sub_cases h1 h2 with rfl | rfl | rfl | rfl | rfl | rfl | rfl | rfl | rfl | rfl
  · clear h1 h2
    obtain ⟨vs0, vo0, hc0⟩ := hI.cs
    have fr0 := hc0.fr
    have k330 : W.cell? ⟨b, 33, none⟩ = some (.int .i64 1) := hc0.c33
    have k360 : W.cell? ⟨b, 36, none⟩ = some (.int .i64 next) := hc0.c36
    have k110 : W.cell? ⟨b, 11, none⟩ = some (.int .i64 e.typ) := hc0.c11
    clear hc0
    go_enter Try.func46, Try.ntmps46
    go_wp2
    first | go_end0 | ((try simp only [Exit.inBlock, Exit.then]); refine bodyPost_ret (results_none rfl _ _ _) rfl ?_)
    exact ⟨rfl, hI⟩
  · clear h1 h2
    obtain ⟨vs0, vo0, hc0⟩ := hI.cs
    have fr0 := hc0.fr
    have k330 : W.cell? ⟨b, 33, none⟩ = some (.int .i64 2) := hc0.c33
    have k360 : W.cell? ⟨b, 36, none⟩ = some (.int .i64 next) := hc0.c36
    have k110 : W.cell? ⟨b, 11, none⟩ = some (.int .i64 e.typ) := hc0.c11
    clear hc0
    go_enter Try.func46, Try.ntmps46
    go_wp2
    first | go_end0 | ((try simp only [Exit.inBlock, Exit.then]); refine bodyPost_ret (results_none rfl _ _ _) rfl ?_)
    exact ⟨rfl, hI⟩
  · clear h1 h2
    obtain ⟨vs0, vo0, hc0⟩ := hI.cs
    have fr0 := hc0.fr
    have k330 : W.cell? ⟨b, 33, none⟩ = some (.int .i64 3) := hc0.c33
    have k360 : W.cell? ⟨b, 36, none⟩ = some (.int .i64 next) := hc0.c36
    have k110 : W.cell? ⟨b, 11, none⟩ = some (.int .i64 e.typ) := hc0.c11
    clear hc0
    go_enter Try.func46, Try.ntmps46
    go_wp2
    first | go_end0 | ((try simp only [Exit.inBlock, Exit.then]); refine bodyPost_ret (results_none rfl _ _ _) rfl ?_)
    exact ⟨rfl, hI⟩
  · clear h1 h2
    obtain ⟨vs0, vo0, hc0⟩ := hI.cs
    have fr0 := hc0.fr
    have k330 : W.cell? ⟨b, 33, none⟩ = some (.int .i64 4) := hc0.c33
    have k360 : W.cell? ⟨b, 36, none⟩ = some (.int .i64 next) := hc0.c36
    have k110 : W.cell? ⟨b, 11, none⟩ = some (.int .i64 e.typ) := hc0.c11
    clear hc0
    cases ht : (e.typ == 3) with
    | true =>
      unfold emptyS
      rw [ht]
      go_enter Try.func46, Try.ntmps46
      go_wp2_with (first | (go_at_call 52; refine (stops_calls hk (hI.set36 0) (Int.le_refl 0) hl7).mono ?_; rintro e' w1 ⟨rfl, hI1⟩))
      first | go_end0 | ((try simp only [Exit.inBlock, Exit.then]); refine bodyPost_ret (results_none rfl _ _ _) rfl ?_)
      exact ⟨rfl, hI1⟩
    | false =>
      unfold emptyS
      rw [ht]
      go_enter Try.func46, Try.ntmps46
      go_wp2
      first | go_end0 | ((try simp only [Exit.inBlock, Exit.then]); refine bodyPost_ret (results_none rfl _ _ _) rfl ?_)
      exact ⟨rfl, hI⟩
  · clear h1 h2
    obtain ⟨vs0, vo0, hc0⟩ := hI.cs
    have fr0 := hc0.fr
    have k330 : W.cell? ⟨b, 33, none⟩ = some (.int .i64 5) := hc0.c33
    have k360 : W.cell? ⟨b, 36, none⟩ = some (.int .i64 next) := hc0.c36
    have k110 : W.cell? ⟨b, 11, none⟩ = some (.int .i64 e.typ) := hc0.c11
    clear hc0
    go_enter Try.func46, Try.ntmps46
    go_wp2
    first | go_end0 | ((try simp only [Exit.inBlock, Exit.then]); refine bodyPost_ret (results_none rfl _ _ _) rfl ?_)
    exact ⟨rfl, hI⟩
  · clear h1 h2
    obtain ⟨vs0, vo0, hc0⟩ := hI.cs
    have fr0 := hc0.fr
    have k330 : W.cell? ⟨b, 33, none⟩ = some (.int .i64 6) := hc0.c33
    have k360 : W.cell? ⟨b, 36, none⟩ = some (.int .i64 next) := hc0.c36
    have k110 : W.cell? ⟨b, 11, none⟩ = some (.int .i64 e.typ) := hc0.c11
    clear hc0
    go_enter Try.func46, Try.ntmps46
    go_wp2
    first | go_end0 | ((try simp only [Exit.inBlock, Exit.then]); refine bodyPost_ret (results_none rfl _ _ _) rfl ?_)
    exact ⟨rfl, hI⟩
  · clear h1 h2
    obtain ⟨vs0, vo0, hc0⟩ := hI.cs
    have fr0 := hc0.fr
    have k330 : W.cell? ⟨b, 33, none⟩ = some (.int .i64 7) := hc0.c33
    have k360 : W.cell? ⟨b, 36, none⟩ = some (.int .i64 next) := hc0.c36
    have k110 : W.cell? ⟨b, 11, none⟩ = some (.int .i64 e.typ) := hc0.c11
    clear hc0
    go_enter Try.func46, Try.ntmps46
    go_wp2_with (first | (go_at_call 63; refine (ends_calls hI hl9).mono ?_; rintro e' w1 ⟨rfl, hI1⟩))
    first | go_end0 | ((try simp only [Exit.inBlock, Exit.then]); refine bodyPost_ret (results_none rfl _ _ _) rfl ?_)
    exact ⟨rfl, hI1⟩
  · clear h1 h2
    obtain ⟨vs0, vo0, hc0⟩ := hI.cs
    have fr0 := hc0.fr
    have k330 : W.cell? ⟨b, 33, none⟩ = some (.int .i64 8) := hc0.c33
    have k360 : W.cell? ⟨b, 36, none⟩ = some (.int .i64 next) := hc0.c36
    have k110 : W.cell? ⟨b, 11, none⟩ = some (.int .i64 e.typ) := hc0.c11
    clear hc0
    go_enter Try.func46, Try.ntmps46
    go_wp2_with (first | (go_at_call 63; refine (ends_calls hI hl9).mono ?_; rintro e' w1 ⟨rfl, hI1⟩))
    first | go_end0 | ((try simp only [Exit.inBlock, Exit.then]); refine bodyPost_ret (results_none rfl _ _ _) rfl ?_)
    exact ⟨rfl, hI1⟩
  · clear h1 h2
    obtain ⟨vs0, vo0, hc0⟩ := hI.cs
    have fr0 := hc0.fr
    have k330 : W.cell? ⟨b, 33, none⟩ = some (.int .i64 9) := hc0.c33
    have k360 : W.cell? ⟨b, 36, none⟩ = some (.int .i64 next) := hc0.c36
    have k110 : W.cell? ⟨b, 11, none⟩ = some (.int .i64 e.typ) := hc0.c11
    clear hc0
    go_enter Try.func46, Try.ntmps46
    go_wp2
    first | go_end0 | ((try simp only [Exit.inBlock, Exit.then]); refine bodyPost_ret (results_none rfl _ _ _) rfl ?_)
    exact ⟨rfl, hI⟩
  · clear h1 h2
    obtain ⟨vs0, vo0, hc0⟩ := hI.cs
    have fr0 := hc0.fr
    have k330 : W.cell? ⟨b, 33, none⟩ = some (.int .i64 10) := hc0.c33
    have k360 : W.cell? ⟨b, 36, none⟩ = some (.int .i64 next) := hc0.c36
    have k110 : W.cell? ⟨b, 11, none⟩ = some (.int .i64 e.typ) := hc0.c11
    clear hc0
    go_enter Try.func46, Try.ntmps46
    go_wp2
    first | go_end0 | ((try simp only [Exit.inBlock, Exit.then]); refine bodyPost_ret (results_none rfl _ _ _) rfl ?_)
    exact ⟨rfl, hI⟩
end Go.Proofs.Ytnoddedgkgkfhaa.Svc
