/- An automaton that is told something. -/
import Derived.Test.YtnoddedgkgkfhaaSvcJ
namespace Go.Proofs.Ytnoddedgkgkfhaa.Svc
open Go.RowKit Go.Proofs.YtnoddedgkgkfhaaW.PrintWords Go.Proofs.YtnoddedgkgkfhaaW.PrintLast
attribute [local go_sem] Oper.semAt_some
set_option linter.unusedVariables false
def toldS (e : En) (s : S) : S × Bool :=
  if (e.kind == 1) = true then (startS e s, true)
  else if (e.kind == 2) = true then (stopS e s, true)
  else if (e.kind == 3) = true then (exitS e s, true)
  else if (e.kind == 4) = true then (noteS e s, true)
  else if (e.kind == 5) = true then (timeS e s, true)
  else if (e.kind == 6) = true then (if (s.sub == 4 && decide (0 < e.wdog)) = true then termsS e s 3 else s, true)
  else if (e.kind == 7) = true then (emptyS e s, true)
  else if (e.kind == 8) = true then (spawnedS e s, true)
  else (s, false)
variable {w0 W : World} {b : Nat} {e : En} {s : S}
set_option maxRecDepth 100000
set_option maxHeartbeats 8000000
theorem note_calls (hI : Inv w0 W b e s) (hn : s.out.length ≤ 930) :
    Calls Try.prog 43 #[.pointer (some ⟨b, 0, none⟩)] W fun e' W' => e' = .returned (.tuple #[]) ∧ Inv w0 W' b e (noteS e s) := by
  have hl6 : s.out.length ≤ 960 := Nat.le_trans hn (by decide)
  have hl10 : s.out.length ≤ 1000 := Nat.le_trans hn (by decide)
  obtain ⟨vs0, vo0, hc0⟩ := hI.cs
  have k42 := hc0.c42
  have k34 := hc0.c34
  obtain ⟨vs1, vo1, hc1⟩ := hI.cs
  have kk42 := hc1.c42
  have kk34 := hc1.c34
  have kk33 := hc1.c33
  have kk44 := hc1.c44
  have kk11 := hc1.c11
  have kk20 := hc1.c20
  clear hc0 hc1
  unfold noteS
  cases hp1 : decide (e.pid ≤ 0) with
  | true =>
    rw [Bool.true_or, if_pos rfl]
    go_enter Try.func43, Try.ntmps43
    go_wp2
    go_quiet (fail)
    go_wp2
    first | go_end0 | ((try simp only [Exit.inBlock, Exit.then]); refine bodyPost_ret (results_none rfl _ _ _) rfl ?_)
    exact ⟨rfl, (hI.below (pw_below_drewN (Below.refl _ _) _))⟩
  | false =>
    cases hp2 : (e.pid != s.main) with
    | true =>
      rw [Bool.false_or, if_pos rfl]
      go_enter Try.func43, Try.ntmps43
      go_wp2
      go_quiet (fail)
      go_wp2
      first | go_end0 | ((try simp only [Exit.inBlock, Exit.then]); refine bodyPost_ret (results_none rfl _ _ _) rfl ?_)
      exact ⟨rfl, (hI.below (pw_below_drewN (Below.refl _ _) _))⟩
    | false =>
      rw [Bool.false_or, if_neg (by decide)]
      cases hr : readyB e with
      | true =>
        have hr1 : (e.text.toList == [82, 69, 65, 68, 89, 61, 49]) = true := hr
        have hwt : watchB e = false := by
          have h5 : e.text.toList = [82, 69, 65, 68, 89, 61, 49] := eq_of_beq hr1
          unfold watchB
          rw [h5]
          rfl
        have hw1 : (e.text.toList == [87, 65, 84, 67, 72, 68, 79, 71, 61, 49]) = false := hwt
        rw [hwt]
        clear hr hwt
        cases h3 : (s.sub == 3) with
        | true =>
          cases h5 : (e.typ == 5) with
          | true =>
            go_enter Try.func43, Try.ntmps43
            go_wp2
            go_quiet (fail)
            go_wp2_with (first | (go_at_call 56; refine (started_calls (hI.below (pw_below_drewN (Below.refl _ _) _)) hl6).mono ?_; rintro e' w1 ⟨rfl, hI1⟩))
            first | go_end0 | ((try simp only [Exit.inBlock, Exit.then]); refine bodyPost_ret (results_none rfl _ _ _) rfl ?_)
            exact ⟨rfl, hI1⟩
          | false =>
            go_enter Try.func43, Try.ntmps43
            go_wp2
            go_quiet (fail)
            go_wp2
            first | go_end0 | ((try simp only [Exit.inBlock, Exit.then]); refine bodyPost_ret (results_none rfl _ _ _) rfl ?_)
            exact ⟨rfl, (hI.below (pw_below_drewN (Below.refl _ _) _))⟩
        | false =>
          go_enter Try.func43, Try.ntmps43
          go_wp2
          go_quiet (fail)
          go_wp2
          first | go_end0 | ((try simp only [Exit.inBlock, Exit.then]); refine bodyPost_ret (results_none rfl _ _ _) rfl ?_)
          exact ⟨rfl, (hI.below (pw_below_drewN (Below.refl _ _) _))⟩
      | false =>
        have hr1 : (e.text.toList == [82, 69, 65, 68, 89, 61, 49]) = false := hr
        clear hr
        cases hw : watchB e with
        | true =>
          have hw1 : (e.text.toList == [87, 65, 84, 67, 72, 68, 79, 71, 61, 49]) = true := hw
          clear hw
          cases h4 : (s.sub == 4) with
          | true =>
            go_enter Try.func43, Try.ntmps43
            go_wp2
            go_quiet (fail)
            go_wp2_with (first | (go_at_call 58; refine (after_calls (hI.below (pw_below_drewN (Below.refl _ _) _)) _).mono ?_; rintro e' w1 ⟨rfl, hI1⟩) | (go_at_call 57; refine (watch_calls hI1 _ hl10).mono ?_; rintro e' w2 ⟨rfl, hI2⟩))
            first | go_end0 | ((try simp only [Exit.inBlock, Exit.then]); refine bodyPost_ret (results_none rfl _ _ _) rfl ?_)
            exact ⟨rfl, hI2⟩
          | false =>
            go_enter Try.func43, Try.ntmps43
            go_wp2
            go_quiet (fail)
            go_wp2
            first | go_end0 | ((try simp only [Exit.inBlock, Exit.then]); refine bodyPost_ret (results_none rfl _ _ _) rfl ?_)
            exact ⟨rfl, (hI.below (pw_below_drewN (Below.refl _ _) _))⟩
        | false =>
          have hw1 : (e.text.toList == [87, 65, 84, 67, 72, 68, 79, 71, 61, 49]) = false := hw
          clear hw
          go_enter Try.func43, Try.ntmps43
          go_wp2
          go_quiet (fail)
          go_wp2
          first | go_end0 | ((try simp only [Exit.inBlock, Exit.then]); refine bodyPost_ret (results_none rfl _ _ _) rfl ?_)
          exact ⟨rfl, (hI.below (pw_below_drewN (Below.refl _ _) _))⟩
theorem told_calls (hk : Ok w0 b e) (hI : Inv w0 W b e s) (h1 : 1 ≤ s.sub) (h2 : s.sub ≤ 10) (hn0 : 0 ≤ s.next) (hn12 : s.next ≤ 12) (hs : s.starts.length ≤ 100) (hn : s.out.length ≤ 930) :
    Calls Try.prog 34 #[.pointer (some ⟨b, 0, none⟩)] W fun e' W' => e' = .returned (.bool (toldS e s).2) ∧ Inv w0 W' b e (toldS e s).1 := by
  have hl8 : s.out.length ≤ 980 := Nat.le_trans hn (by decide)
  obtain ⟨vs0, vo0, hc0⟩ := hI.cs
  have k41 := hc0.c41
  have k33 := hc0.c33
  have k20 := hc0.c20
  clear hc0
  unfold toldS
  cases hq1 : (e.kind == 1) with
  | true =>
    have HC := start_calls hk hI h1 h2 hs hn
    clear h1 h2 hn0 hn12
    go_enter Try.func34, Try.ntmps34
    go_wp2_with (first | (go_at_call 40; refine HC.mono ?_; rintro e' w1 ⟨rfl, hI1⟩))
    go_ret
    exact ⟨rfl, hI1⟩
  | false =>
    cases hq2 : (e.kind == 2) with
    | true =>
      have HC := stop_calls hk hI h1 h2 hn
      clear h1 h2 hn0 hn12
      go_enter Try.func34, Try.ntmps34
      go_wp2_with (first | (go_at_call 41; refine HC.mono ?_; rintro e' w1 ⟨rfl, hI1⟩))
      go_ret
      exact ⟨rfl, hI1⟩
    | false =>
      cases hq3 : (e.kind == 3) with
      | true =>
        have HC := exit_calls hk hI h1 h2 hn0 hn12 hn
        clear h1 h2 hn0 hn12
        go_enter Try.func34, Try.ntmps34
        go_wp2_with (first | (go_at_call 42; refine HC.mono ?_; rintro e' w1 ⟨rfl, hI1⟩))
        go_ret
        exact ⟨rfl, hI1⟩
      | false =>
        cases hq4 : (e.kind == 4) with
        | true =>
          have HC := note_calls hI hn
          clear h1 h2 hn0 hn12
          go_enter Try.func34, Try.ntmps34
          go_wp2_with (first | (go_at_call 43; refine HC.mono ?_; rintro e' w1 ⟨rfl, hI1⟩))
          go_ret
          exact ⟨rfl, hI1⟩
        | false =>
          cases hq5 : (e.kind == 5) with
          | true =>
            have HC := time_calls hk hI h1 h2 hs hn
            clear h1 h2 hn0 hn12
            go_enter Try.func34, Try.ntmps34
            go_wp2_with (first | (go_at_call 44; refine HC.mono ?_; rintro e' w1 ⟨rfl, hI1⟩))
            go_ret
            exact ⟨rfl, hI1⟩
          | false =>
            cases hq6 : (e.kind == 6) with
            | true =>
              clear h1 h2 hn0 hn12
              cases h4 : (s.sub == 4) with
              | false =>
                go_enter Try.func34, Try.ntmps34
                go_wp2
                go_ret
                exact ⟨rfl, hI⟩
              | true =>
                cases h5 : decide (0 < e.wdog) with
                | false =>
                  go_enter Try.func34, Try.ntmps34
                  go_wp2
                  go_ret
                  exact ⟨rfl, hI⟩
                | true =>
                  go_enter Try.func34, Try.ntmps34
                  go_wp2_with (first | (go_at_call 45; refine (terms_calls hI 3 hl8).mono ?_; rintro e' w1 ⟨rfl, hI1⟩))
                  go_ret
                  exact ⟨rfl, hI1⟩
            | false =>
              cases hq7 : (e.kind == 7) with
              | true =>
                have HC := empty_calls hk hI h1 h2 hn
                clear h1 h2 hn0 hn12
                go_enter Try.func34, Try.ntmps34
                go_wp2_with (first | (go_at_call 46; refine HC.mono ?_; rintro e' w1 ⟨rfl, hI1⟩))
                go_ret
                exact ⟨rfl, hI1⟩
              | false =>
                cases hq8 : (e.kind == 8) with
                | true =>
                  have HC := spawned_calls hk hI h1 h2 hn
                  clear h1 h2 hn0 hn12
                  go_enter Try.func34, Try.ntmps34
                  go_wp2_with (first | (go_at_call 47; refine HC.mono ?_; rintro e' w1 ⟨rfl, hI1⟩))
                  go_ret
                  exact ⟨rfl, hI1⟩
                | false =>
                  clear h1 h2 hn0 hn12
                  go_enter Try.func34, Try.ntmps34
                  go_wp2
                  go_ret
                  exact ⟨rfl, hI⟩
end Go.Proofs.Ytnoddedgkgkfhaa.Svc
