/- What an automaton does when it is told to start, to stop, of a process begun. -/
import Derived.Test.YtnoddedgkgkfhaaSvcG
namespace Go.Proofs.Ytnoddedgkgkfhaa.Svc
open Go.RowKit Go.Proofs.YtnoddedgkgkfhaaW.PrintWords Go.Proofs.YtnoddedgkgkfhaaW.PrintLast
attribute [local go_sem] Oper.semAt_some
set_option linter.unusedVariables false
def beginsG (e : En) (p : S × Bool) : S :=
  if p.2 = true then resultS (idleS { p.1 with sub := 9, result := 2 }) 2
  else preparesS e { p.1 with stopping := false, result := 0, main := 0, control := 0, next := 0 }
def beginsS (e : En) (s : S) : S := beginsG e (limitedS e s)
def startS (e : En) (s : S) : S :=
  if (s.sub == 1 || s.sub == 9 || s.sub == 10) = true then beginsS e s
  else if (s.sub == 4 || s.sub == 5) = true then resultS s 1
  else if (s.sub == 2 || s.sub == 3) = true then s
  else resultS s 2
def stopS (e : En) (s : S) : S :=
  if (s.sub == 10) = true then { resultS { idleS { s with stopping := true } with sub := 1 } 1 with stopping := false }
  else if (s.sub == 1 || s.sub == 9) = true then { resultS { s with stopping := true } 1 with stopping := false }
  else if (s.sub == 4 || s.sub == 5) = true then stopsS e { s with stopping := true, next := 0 }
  else if (s.sub == 2 || s.sub == 3) = true then termsS e { s with stopping := true } 0
  else { s with stopping := true }
theorem sub_cases {n : Int} (h1 : 1 ≤ n) (h2 : n ≤ 10) : n = 1 ∨ n = 2 ∨ n = 3 ∨ n = 4 ∨ n = 5 ∨ n = 6 ∨ n = 7 ∨ n = 8 ∨ n = 9 ∨ n = 10 := by omega
variable {w0 W : World} {b : Nat} {e : En} {s : S}
set_option maxRecDepth 100000
set_option maxHeartbeats 4000000
theorem limited_out (e : En) (s : S) : (limitedS e s).1.out = s.out := by unfold limitedS; split <;> (try split) <;> rfl
theorem begins_calls (hk : Ok w0 b e) (hI : Inv w0 W b e s) (hs : s.starts.length ≤ 100) (hn : s.out.length ≤ 930) :
    Calls Try.prog 49 #[.pointer (some ⟨b, 0, none⟩)] W fun e' W' => e' = .returned (.tuple #[]) ∧ Inv w0 W' b e (beginsS e s) := by
  unfold beginsS
  have hl := limited_calls hI hs
  have ho := limited_out e s
  obtain ⟨p, hp⟩ : ∃ p, limitedS e s = p := ⟨_, rfl⟩
  rw [hp] at hl ho ⊢
  obtain ⟨s1, lb⟩ := p
  dsimp only at hl ho
  have hl1 : ({ s1 with sub := 9, result := 2 } : S).out.length ≤ 1000 := by show s1.out.length ≤ 1000; rw [ho]; exact Nat.le_trans hn (by decide)
  have hl2 : (idleS { s1 with sub := 9, result := 2 }).out.length ≤ 1000 := by rw [idle_len]; show s1.out.length + 1 ≤ 1000; rw [ho]; exact Nat.le_trans (Nat.succ_le_succ hn) (by decide)
  have hl3 : ({ s1 with stopping := false, result := 0, main := 0, control := 0, next := 0 } : S).out.length ≤ 940 := by show s1.out.length ≤ 940; rw [ho]; exact Nat.le_trans hn (by decide)
  clear hp ho
  cases lb with
  | true =>
    go_enter Try.func49, Try.ntmps49
    go_wp2_with (first | (go_at_call 65; refine hl.mono ?_; rintro e' w1 ⟨rfl, hI1⟩; obtain ⟨vs1, vo1, hc1⟩ := hI1.cs; have fr1 := hc1.fr; have k331 : w1.cell? ⟨b, 33, none⟩ = some (.int .i64 (s1).sub) := hc1.c33; have k391 : w1.cell? ⟨b, 39, none⟩ = some (.int .i64 (s1).result) := hc1.c39; clear hc1) | (go_at_call 51; refine (idle_calls ((hI1.set33 9).set39 2) hl1).mono ?_; rintro e' w2 ⟨rfl, hI2⟩) | (go_at_call 50; refine (result_calls hI2 2 hl2).mono ?_; rintro e' w3 ⟨rfl, hI3⟩))
    first | go_end0 | ((try simp only [Exit.inBlock, Exit.then]); refine bodyPost_ret (results_none rfl _ _ _) rfl ?_)
    exact ⟨rfl, hI3⟩
  | false =>
    go_enter Try.func49, Try.ntmps49
    go_wp2_with (first | (go_at_call 65; refine hl.mono ?_; rintro e' w1 ⟨rfl, hI1⟩; obtain ⟨vs1, vo1, hc1⟩ := hI1.cs; have fr1 := hc1.fr; have k381 : w1.cell? ⟨b, 38, none⟩ = some (.bool (s1).stopping) := hc1.c38; have k391 : w1.cell? ⟨b, 39, none⟩ = some (.int .i64 (s1).result) := hc1.c39; have k341 : w1.cell? ⟨b, 34, none⟩ = some (.int .i64 (s1).main) := hc1.c34; have k351 : w1.cell? ⟨b, 35, none⟩ = some (.int .i64 (s1).control) := hc1.c35; have k361 : w1.cell? ⟨b, 36, none⟩ = some (.int .i64 (s1).next) := hc1.c36; clear hc1) | (go_at_call 66; refine (prepares_calls hk (((((hI1.set38 false).set39 0).set34 0).set35 0).set36 0) (Int.le_refl 0) hl3).mono ?_; rintro e' w2 ⟨rfl, hI2⟩))
    first | go_end0 | ((try simp only [Exit.inBlock, Exit.then]); refine bodyPost_ret (results_none rfl _ _ _) rfl ?_)
    exact ⟨rfl, hI2⟩
theorem start_calls (hk : Ok w0 b e) (hI : Inv w0 W b e s) (h1 : 1 ≤ s.sub) (h2 : s.sub ≤ 10) (hs : s.starts.length ≤ 100) (hn : s.out.length ≤ 930) :
    Calls Try.prog 40 #[.pointer (some ⟨b, 0, none⟩)] W fun e' W' => e' = .returned (.tuple #[]) ∧ Inv w0 W' b e (startS e s) := by
  obtain ⟨sub, main, control, next, starts, stopping, result, waiting, out⟩ := s
  dsimp only at *
  have hl : out.length ≤ 1000 := Nat.le_trans hn (by decide)
  rcases sub_cases h1 h2 with rfl | rfl | rfl | rfl | rfl | rfl | rfl | rfl | rfl | rfl
  · clear h1 h2
    obtain ⟨vs0, vo0, hc0⟩ := hI.cs
    have fr0 := hc0.fr
    have k330 : W.cell? ⟨b, 33, none⟩ = some (.int .i64 1) := hc0.c33
    clear hc0
    go_enter Try.func40, Try.ntmps40
    go_wp2_with (first | (go_at_call 49; refine (begins_calls hk hI hs hn).mono ?_; rintro e' w1 ⟨rfl, hI1⟩))
    first | go_end0 | ((try simp only [Exit.inBlock, Exit.then]); refine bodyPost_ret (results_none rfl _ _ _) rfl ?_)
    exact ⟨rfl, hI1⟩
  · clear h1 h2
    obtain ⟨vs0, vo0, hc0⟩ := hI.cs
    have fr0 := hc0.fr
    have k330 : W.cell? ⟨b, 33, none⟩ = some (.int .i64 2) := hc0.c33
    clear hc0
    go_enter Try.func40, Try.ntmps40
    go_wp2
    first | go_end0 | ((try simp only [Exit.inBlock, Exit.then]); refine bodyPost_ret (results_none rfl _ _ _) rfl ?_)
    exact ⟨rfl, hI⟩
  · clear h1 h2
    obtain ⟨vs0, vo0, hc0⟩ := hI.cs
    have fr0 := hc0.fr
    have k330 : W.cell? ⟨b, 33, none⟩ = some (.int .i64 3) := hc0.c33
    clear hc0
    go_enter Try.func40, Try.ntmps40
    go_wp2
    first | go_end0 | ((try simp only [Exit.inBlock, Exit.then]); refine bodyPost_ret (results_none rfl _ _ _) rfl ?_)
    exact ⟨rfl, hI⟩
  · clear h1 h2
    obtain ⟨vs0, vo0, hc0⟩ := hI.cs
    have fr0 := hc0.fr
    have k330 : W.cell? ⟨b, 33, none⟩ = some (.int .i64 4) := hc0.c33
    clear hc0
    go_enter Try.func40, Try.ntmps40
    go_wp2_with (first | (go_at_call 50; refine (result_calls hI 1 hl).mono ?_; rintro e' w1 ⟨rfl, hI1⟩))
    first | go_end0 | ((try simp only [Exit.inBlock, Exit.then]); refine bodyPost_ret (results_none rfl _ _ _) rfl ?_)
    exact ⟨rfl, hI1⟩
  · clear h1 h2
    obtain ⟨vs0, vo0, hc0⟩ := hI.cs
    have fr0 := hc0.fr
    have k330 : W.cell? ⟨b, 33, none⟩ = some (.int .i64 5) := hc0.c33
    clear hc0
    go_enter Try.func40, Try.ntmps40
    go_wp2_with (first | (go_at_call 50; refine (result_calls hI 1 hl).mono ?_; rintro e' w1 ⟨rfl, hI1⟩))
    first | go_end0 | ((try simp only [Exit.inBlock, Exit.then]); refine bodyPost_ret (results_none rfl _ _ _) rfl ?_)
    exact ⟨rfl, hI1⟩
  · clear h1 h2
    obtain ⟨vs0, vo0, hc0⟩ := hI.cs
    have fr0 := hc0.fr
    have k330 : W.cell? ⟨b, 33, none⟩ = some (.int .i64 6) := hc0.c33
    clear hc0
    go_enter Try.func40, Try.ntmps40
    go_wp2_with (first | (go_at_call 50; refine (result_calls hI 2 hl).mono ?_; rintro e' w1 ⟨rfl, hI1⟩))
    first | go_end0 | ((try simp only [Exit.inBlock, Exit.then]); refine bodyPost_ret (results_none rfl _ _ _) rfl ?_)
    exact ⟨rfl, hI1⟩
  · clear h1 h2
    obtain ⟨vs0, vo0, hc0⟩ := hI.cs
    have fr0 := hc0.fr
    have k330 : W.cell? ⟨b, 33, none⟩ = some (.int .i64 7) := hc0.c33
    clear hc0
    go_enter Try.func40, Try.ntmps40
    go_wp2_with (first | (go_at_call 50; refine (result_calls hI 2 hl).mono ?_; rintro e' w1 ⟨rfl, hI1⟩))
    first | go_end0 | ((try simp only [Exit.inBlock, Exit.then]); refine bodyPost_ret (results_none rfl _ _ _) rfl ?_)
    exact ⟨rfl, hI1⟩
  · clear h1 h2
    obtain ⟨vs0, vo0, hc0⟩ := hI.cs
    have fr0 := hc0.fr
    have k330 : W.cell? ⟨b, 33, none⟩ = some (.int .i64 8) := hc0.c33
    clear hc0
    go_enter Try.func40, Try.ntmps40
    go_wp2_with (first | (go_at_call 50; refine (result_calls hI 2 hl).mono ?_; rintro e' w1 ⟨rfl, hI1⟩))
    first | go_end0 | ((try simp only [Exit.inBlock, Exit.then]); refine bodyPost_ret (results_none rfl _ _ _) rfl ?_)
    exact ⟨rfl, hI1⟩
  · clear h1 h2
    obtain ⟨vs0, vo0, hc0⟩ := hI.cs
    have fr0 := hc0.fr
    have k330 : W.cell? ⟨b, 33, none⟩ = some (.int .i64 9) := hc0.c33
    clear hc0
    go_enter Try.func40, Try.ntmps40
    go_wp2_with (first | (go_at_call 49; refine (begins_calls hk hI hs hn).mono ?_; rintro e' w1 ⟨rfl, hI1⟩))
    first | go_end0 | ((try simp only [Exit.inBlock, Exit.then]); refine bodyPost_ret (results_none rfl _ _ _) rfl ?_)
    exact ⟨rfl, hI1⟩
  · clear h1 h2
    obtain ⟨vs0, vo0, hc0⟩ := hI.cs
    have fr0 := hc0.fr
    have k330 : W.cell? ⟨b, 33, none⟩ = some (.int .i64 10) := hc0.c33
    clear hc0
    go_enter Try.func40, Try.ntmps40
    go_wp2_with (first | (go_at_call 49; refine (begins_calls hk hI hs hn).mono ?_; rintro e' w1 ⟨rfl, hI1⟩))
    first | go_end0 | ((try simp only [Exit.inBlock, Exit.then]); refine bodyPost_ret (results_none rfl _ _ _) rfl ?_)
    exact ⟨rfl, hI1⟩
theorem stop_calls (hk : Ok w0 b e) (hI : Inv w0 W b e s) (h1 : 1 ≤ s.sub) (h2 : s.sub ≤ 10) (hn : s.out.length ≤ 930) :
    Calls Try.prog 41 #[.pointer (some ⟨b, 0, none⟩)] W fun e' W' => e' = .returned (.tuple #[]) ∧ Inv w0 W' b e (stopS e s) := by
  obtain ⟨sub, main, control, next, starts, stopping, result, waiting, out⟩ := s
  dsimp only at *
  have hl : out.length ≤ 1000 := Nat.le_trans hn (by decide)
  have hl7 : out.length ≤ 970 := Nat.le_trans hn (by decide)
  have hl8 : out.length ≤ 980 := Nat.le_trans hn (by decide)
  rcases sub_cases h1 h2 with rfl | rfl | rfl | rfl | rfl | rfl | rfl | rfl | rfl | rfl
  · clear h1 h2
    obtain ⟨vs0, vo0, hc0⟩ := hI.cs
    have fr0 := hc0.fr
    have k330 : W.cell? ⟨b, 33, none⟩ = some (.int .i64 1) := hc0.c33
    have k380 : W.cell? ⟨b, 38, none⟩ = some (.bool stopping) := hc0.c38
    have k360 : W.cell? ⟨b, 36, none⟩ = some (.int .i64 next) := hc0.c36
    clear hc0
    go_enter Try.func41, Try.ntmps41
    go_wp2_with (first | (go_at_call 50; refine (result_calls (hI.set38 true) 1 hl).mono ?_; rintro e' w2 ⟨rfl, hI2⟩; obtain ⟨vs2, vo2, hc2⟩ := hI2.cs; have fr2 := hc2.fr; have k382 := hc2.c38; clear hc2))
    first | go_end0 | ((try simp only [Exit.inBlock, Exit.then]); refine bodyPost_ret (results_none rfl _ _ _) rfl ?_)
    exact ⟨rfl, hI2.set38 false⟩
  · clear h1 h2
    obtain ⟨vs0, vo0, hc0⟩ := hI.cs
    have fr0 := hc0.fr
    have k330 : W.cell? ⟨b, 33, none⟩ = some (.int .i64 2) := hc0.c33
    have k380 : W.cell? ⟨b, 38, none⟩ = some (.bool stopping) := hc0.c38
    have k360 : W.cell? ⟨b, 36, none⟩ = some (.int .i64 next) := hc0.c36
    clear hc0
    go_enter Try.func41, Try.ntmps41
    go_wp2_with (first | (go_at_call 45; refine (terms_calls (hI.set38 true) 0 hl8).mono ?_; rintro e' w1 ⟨rfl, hI1⟩))
    first | go_end0 | ((try simp only [Exit.inBlock, Exit.then]); refine bodyPost_ret (results_none rfl _ _ _) rfl ?_)
    exact ⟨rfl, hI1⟩
  · clear h1 h2
    obtain ⟨vs0, vo0, hc0⟩ := hI.cs
    have fr0 := hc0.fr
    have k330 : W.cell? ⟨b, 33, none⟩ = some (.int .i64 3) := hc0.c33
    have k380 : W.cell? ⟨b, 38, none⟩ = some (.bool stopping) := hc0.c38
    have k360 : W.cell? ⟨b, 36, none⟩ = some (.int .i64 next) := hc0.c36
    clear hc0
    go_enter Try.func41, Try.ntmps41
    go_wp2_with (first | (go_at_call 45; refine (terms_calls (hI.set38 true) 0 hl8).mono ?_; rintro e' w1 ⟨rfl, hI1⟩))
    first | go_end0 | ((try simp only [Exit.inBlock, Exit.then]); refine bodyPost_ret (results_none rfl _ _ _) rfl ?_)
    exact ⟨rfl, hI1⟩
  · clear h1 h2
    obtain ⟨vs0, vo0, hc0⟩ := hI.cs
    have fr0 := hc0.fr
    have k330 : W.cell? ⟨b, 33, none⟩ = some (.int .i64 4) := hc0.c33
    have k380 : W.cell? ⟨b, 38, none⟩ = some (.bool stopping) := hc0.c38
    have k360 : W.cell? ⟨b, 36, none⟩ = some (.int .i64 next) := hc0.c36
    clear hc0
    go_enter Try.func41, Try.ntmps41
    go_wp2_with (first | (go_at_call 52; refine (stops_calls hk ((hI.set38 true).set36 0) (Int.le_refl 0) hl7).mono ?_; rintro e' w1 ⟨rfl, hI1⟩))
    first | go_end0 | ((try simp only [Exit.inBlock, Exit.then]); refine bodyPost_ret (results_none rfl _ _ _) rfl ?_)
    exact ⟨rfl, hI1⟩
  · clear h1 h2
    obtain ⟨vs0, vo0, hc0⟩ := hI.cs
    have fr0 := hc0.fr
    have k330 : W.cell? ⟨b, 33, none⟩ = some (.int .i64 5) := hc0.c33
    have k380 : W.cell? ⟨b, 38, none⟩ = some (.bool stopping) := hc0.c38
    have k360 : W.cell? ⟨b, 36, none⟩ = some (.int .i64 next) := hc0.c36
    clear hc0
    go_enter Try.func41, Try.ntmps41
    go_wp2_with (first | (go_at_call 52; refine (stops_calls hk ((hI.set38 true).set36 0) (Int.le_refl 0) hl7).mono ?_; rintro e' w1 ⟨rfl, hI1⟩))
    first | go_end0 | ((try simp only [Exit.inBlock, Exit.then]); refine bodyPost_ret (results_none rfl _ _ _) rfl ?_)
    exact ⟨rfl, hI1⟩
  · clear h1 h2
    obtain ⟨vs0, vo0, hc0⟩ := hI.cs
    have fr0 := hc0.fr
    have k330 : W.cell? ⟨b, 33, none⟩ = some (.int .i64 6) := hc0.c33
    have k380 : W.cell? ⟨b, 38, none⟩ = some (.bool stopping) := hc0.c38
    have k360 : W.cell? ⟨b, 36, none⟩ = some (.int .i64 next) := hc0.c36
    clear hc0
    go_enter Try.func41, Try.ntmps41
    go_wp2
    first | go_end0 | ((try simp only [Exit.inBlock, Exit.then]); refine bodyPost_ret (results_none rfl _ _ _) rfl ?_)
    exact ⟨rfl, hI.set38 true⟩
  · clear h1 h2
    obtain ⟨vs0, vo0, hc0⟩ := hI.cs
    have fr0 := hc0.fr
    have k330 : W.cell? ⟨b, 33, none⟩ = some (.int .i64 7) := hc0.c33
    have k380 : W.cell? ⟨b, 38, none⟩ = some (.bool stopping) := hc0.c38
    have k360 : W.cell? ⟨b, 36, none⟩ = some (.int .i64 next) := hc0.c36
    clear hc0
    go_enter Try.func41, Try.ntmps41
    go_wp2
    first | go_end0 | ((try simp only [Exit.inBlock, Exit.then]); refine bodyPost_ret (results_none rfl _ _ _) rfl ?_)
    exact ⟨rfl, hI.set38 true⟩
  · clear h1 h2
    obtain ⟨vs0, vo0, hc0⟩ := hI.cs
    have fr0 := hc0.fr
    have k330 : W.cell? ⟨b, 33, none⟩ = some (.int .i64 8) := hc0.c33
    have k380 : W.cell? ⟨b, 38, none⟩ = some (.bool stopping) := hc0.c38
    have k360 : W.cell? ⟨b, 36, none⟩ = some (.int .i64 next) := hc0.c36
    clear hc0
    go_enter Try.func41, Try.ntmps41
    go_wp2
    first | go_end0 | ((try simp only [Exit.inBlock, Exit.then]); refine bodyPost_ret (results_none rfl _ _ _) rfl ?_)
    exact ⟨rfl, hI.set38 true⟩
  · clear h1 h2
    obtain ⟨vs0, vo0, hc0⟩ := hI.cs
    have fr0 := hc0.fr
    have k330 : W.cell? ⟨b, 33, none⟩ = some (.int .i64 9) := hc0.c33
    have k380 : W.cell? ⟨b, 38, none⟩ = some (.bool stopping) := hc0.c38
    have k360 : W.cell? ⟨b, 36, none⟩ = some (.int .i64 next) := hc0.c36
    clear hc0
    go_enter Try.func41, Try.ntmps41
    go_wp2_with (first | (go_at_call 50; refine (result_calls (hI.set38 true) 1 hl).mono ?_; rintro e' w2 ⟨rfl, hI2⟩; obtain ⟨vs2, vo2, hc2⟩ := hI2.cs; have fr2 := hc2.fr; have k382 := hc2.c38; clear hc2))
    first | go_end0 | ((try simp only [Exit.inBlock, Exit.then]); refine bodyPost_ret (results_none rfl _ _ _) rfl ?_)
    exact ⟨rfl, hI2.set38 false⟩
  · clear h1 h2
    obtain ⟨vs0, vo0, hc0⟩ := hI.cs
    have fr0 := hc0.fr
    have k330 : W.cell? ⟨b, 33, none⟩ = some (.int .i64 10) := hc0.c33
    have k380 : W.cell? ⟨b, 38, none⟩ = some (.bool stopping) := hc0.c38
    have k360 : W.cell? ⟨b, 36, none⟩ = some (.int .i64 next) := hc0.c36
    clear hc0
    go_enter Try.func41, Try.ntmps41
    go_wp2_with (first | (go_at_call 51; refine (idle_calls (hI.set38 true) hl).mono ?_; rintro e' w1 ⟨rfl, hI1⟩; obtain ⟨vs1, vo1, hc1⟩ := hI1.cs; have fr1 := hc1.fr; have k331 := hc1.c33; clear hc1) | (go_at_call 50; refine (result_calls (hI1.set33 1) 1 (by show (out ++ [_]).length ≤ 1000; rw [List.length_append, List.length_singleton]; exact Nat.le_trans (Nat.succ_le_succ hn) (by decide))).mono ?_; rintro e' w2 ⟨rfl, hI2⟩; obtain ⟨vs2, vo2, hc2⟩ := hI2.cs; have fr2 := hc2.fr; have k382 := hc2.c38; clear hc2))
    first | go_end0 | ((try simp only [Exit.inBlock, Exit.then]); refine bodyPost_ret (results_none rfl _ _ _) rfl ?_)
    exact ⟨rfl, hI2.set38 false⟩
end Go.Proofs.Ytnoddedgkgkfhaa.Svc
