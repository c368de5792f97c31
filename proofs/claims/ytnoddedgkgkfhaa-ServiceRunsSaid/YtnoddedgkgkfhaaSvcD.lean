/- Ends of an automaton. -/
import Derived.Test.YtnoddedgkgkfhaaSvcC
namespace Go.Proofs.Ytnoddedgkgkfhaa.Svc
open Go.RowKit Go.Proofs.YtnoddedgkgkfhaaW.PrintWords Go.Proofs.YtnoddedgkgkfhaaW.PrintLast
attribute [local go_sem] Oper.semAt_some
set_option linter.unusedVariables false
theorem watch_stopping (e : En) (s : S) (t : Int) : (watchS e s t).stopping = s.stopping := by unfold watchS; split <;> rfl
theorem watch_result (e : En) (s : S) (t : Int) : (watchS e s t).result = s.result := by unfold watchS; split <;> rfl
theorem watch_len (e : En) (s : S) (t : Int) : (watchS e s t).out.length ≤ s.out.length + 1 := by
  unfold watchS add; split
  · simp
  · omega
theorem idle_len (s : S) : (idleS s).out.length = s.out.length + 1 := by simp [idleS, timerS, add]
theorem spoils_len (s : S) (r : Int) : (spoilsS s r).out.length = s.out.length := by unfold spoilsS; split <;> rfl
theorem timer_len (s : S) (t : Int) : (timerS s t).out.length = s.out.length + 1 := by simp [timerS, add]
theorem result_len (s : S) (t : Int) : (resultS s t).out.length = s.out.length + 1 := by simp [resultS, add]
variable {w0 W : World} {b : Nat} {e : En} {s : S}
set_option maxRecDepth 100000
set_option maxHeartbeats 2000000
theorem ends_calls (hI : Inv w0 W b e s) (hn : s.out.length ≤ 990) :
    Calls Try.prog 63 #[.pointer (some ⟨b, 0, none⟩)] W fun e' W' => e' = .returned (.tuple #[]) ∧ Inv w0 W' b e (endsS e s) := by
  obtain ⟨vs0, vo0, hc0⟩ := hI.cs
  have fr0 := hc0.fr
  have k340 : W.cell? ⟨b, 34, none⟩ = some (.int .i64 (s).main) := hc0.c34
  have k350 : W.cell? ⟨b, 35, none⟩ = some (.int .i64 (s).control) := hc0.c35
  have k360 : W.cell? ⟨b, 36, none⟩ = some (.int .i64 (s).next) := hc0.c36
  have k400 : W.cell? ⟨b, 40, none⟩ = some (.bool (s).waiting) := hc0.c40
  clear hc0
  unfold endsS
  dsimp only
  have hl1 : (idleS { s with main := 0, control := 0, next := 0, waiting := false }).out.length ≤ 1000 := by rw [idle_len]; exact Nat.le_trans (Nat.succ_le_succ hn) (by decide)
  have hl2 : (watchS e (idleS { s with main := 0, control := 0, next := 0, waiting := false }) 9223372036854775807).out.length ≤ 992 := Nat.le_trans (watch_len _ _ _) (by rw [idle_len]; exact Nat.succ_le_succ (Nat.succ_le_succ hn))
  have hst1 : (watchS e (idleS { s with main := 0, control := 0, next := 0, waiting := false }) 9223372036854775807).stopping = s.stopping := watch_stopping _ _ _
  have hre1 : (watchS e (idleS { s with main := 0, control := 0, next := 0, waiting := false }) 9223372036854775807).result = s.result := watch_result _ _ _
  obtain ⟨s1, hs1⟩ : ∃ s1, watchS e (idleS { s with main := 0, control := 0, next := 0, waiting := false }) 9223372036854775807 = s1 := ⟨_, rfl⟩
  rw [hs1] at hl2 hst1 hre1 ⊢
  have hl3 : s1.out.length ≤ 1000 := Nat.le_trans hl2 (by decide)
  have HS1 := Aside0.mk hs1
  have HST := Aside0.mk hst1
  have HRE := Aside0.mk hre1
  clear hs1 hst1 hre1
  cases h1 : s.stopping with
  | true =>
    rw [if_pos rfl]
    go_enter Try.func63, Try.ntmps63
    go_wp2_with (first | (go_at_call 51; refine (idle_calls ((((hI.set34 0).set35 0).set36 0).set40 false) (Nat.le_trans hn (by decide))).mono ?_; rintro e' w1 ⟨rfl, hI1⟩) | (go_at_call 57; refine (watch_calls hI1 _ hl1).mono ?_; rintro e' w2 ⟨rfl, hI2⟩; rw [HS1.out] at hI2; obtain ⟨vs2, vo2, hc2⟩ := hI2.cs; have fr2 := hc2.fr; have k122 : w2.cell? ⟨b, 12, none⟩ = some (.int .i64 e.rst) := hc2.c12; have k332 : w2.cell? ⟨b, 33, none⟩ = some (.int .i64 (s1).sub) := hc2.c33; have k382 : w2.cell? ⟨b, 38, none⟩ = some (.bool s.stopping) := hc2.c38.trans (by rw [HST.out]); have k392 : w2.cell? ⟨b, 39, none⟩ = some (.int .i64 s.result) := hc2.c39.trans (by rw [HRE.out]); have k172 : w2.cell? ⟨b, 17, none⟩ = some (.int .i64 e.rsec) := hc2.c17; clear hc2) | (go_at_call 50; refine (result_calls (((hI2.set33 1).set39 0).set38 false) 1 hl3).mono ?_; rintro e' w3 ⟨rfl, hI3⟩))
    first | go_end0 | ((try simp only [Exit.inBlock, Exit.then]); refine bodyPost_ret (results_none rfl _ _ _) rfl ?_)
    exact ⟨rfl, hI3⟩
  | false =>
    rw [if_neg (by decide)]
    cases h2 : (e.rst == 3) with
    | true =>
      rw [Bool.true_or, if_pos rfl]
      go_enter Try.func63, Try.ntmps63
      go_wp2_with (first | (go_at_call 51; refine (idle_calls ((((hI.set34 0).set35 0).set36 0).set40 false) (Nat.le_trans hn (by decide))).mono ?_; rintro e' w1 ⟨rfl, hI1⟩) | (go_at_call 57; refine (watch_calls hI1 _ hl1).mono ?_; rintro e' w2 ⟨rfl, hI2⟩; rw [HS1.out] at hI2; obtain ⟨vs2, vo2, hc2⟩ := hI2.cs; have fr2 := hc2.fr; have k122 : w2.cell? ⟨b, 12, none⟩ = some (.int .i64 e.rst) := hc2.c12; have k332 : w2.cell? ⟨b, 33, none⟩ = some (.int .i64 (s1).sub) := hc2.c33; have k382 : w2.cell? ⟨b, 38, none⟩ = some (.bool s.stopping) := hc2.c38.trans (by rw [HST.out]); have k392 : w2.cell? ⟨b, 39, none⟩ = some (.int .i64 s.result) := hc2.c39.trans (by rw [HRE.out]); have k172 : w2.cell? ⟨b, 17, none⟩ = some (.int .i64 e.rsec) := hc2.c17; clear hc2) | (go_at_call 58; refine (after_calls ((hI2.set33 10).set39 0) _).mono ?_; rintro e' w3 ⟨rfl, hI3⟩) | (go_at_call 60; refine (timer_calls hI3 _ hl3).mono ?_; rintro e' w4 ⟨rfl, hI4⟩))
      first | go_end0 | ((try simp only [Exit.inBlock, Exit.then]); refine bodyPost_ret (results_none rfl _ _ _) rfl ?_)
      exact ⟨rfl, hI4⟩
    | false =>
      cases h3 : (e.rst == 2) with
      | false =>
        rw [Bool.false_and, Bool.false_or, if_neg (by decide)]
        cases h4 : (s.result != 0) with
        | true =>
          rw [if_pos rfl]
          go_enter Try.func63, Try.ntmps63
          go_wp2_with (first | (go_at_call 51; refine (idle_calls ((((hI.set34 0).set35 0).set36 0).set40 false) (Nat.le_trans hn (by decide))).mono ?_; rintro e' w1 ⟨rfl, hI1⟩) | (go_at_call 57; refine (watch_calls hI1 _ hl1).mono ?_; rintro e' w2 ⟨rfl, hI2⟩; rw [HS1.out] at hI2; obtain ⟨vs2, vo2, hc2⟩ := hI2.cs; have fr2 := hc2.fr; have k122 : w2.cell? ⟨b, 12, none⟩ = some (.int .i64 e.rst) := hc2.c12; have k332 : w2.cell? ⟨b, 33, none⟩ = some (.int .i64 (s1).sub) := hc2.c33; have k382 : w2.cell? ⟨b, 38, none⟩ = some (.bool s.stopping) := hc2.c38.trans (by rw [HST.out]); have k392 : w2.cell? ⟨b, 39, none⟩ = some (.int .i64 s.result) := hc2.c39.trans (by rw [HRE.out]); have k172 : w2.cell? ⟨b, 17, none⟩ = some (.int .i64 e.rsec) := hc2.c17; clear hc2))
          first | go_end0 | ((try simp only [Exit.inBlock, Exit.then]); refine bodyPost_ret (results_none rfl _ _ _) rfl ?_)
          exact ⟨rfl, hI2.set33 9⟩
        | false =>
          rw [if_neg (by decide)]
          go_enter Try.func63, Try.ntmps63
          go_wp2_with (first | (go_at_call 51; refine (idle_calls ((((hI.set34 0).set35 0).set36 0).set40 false) (Nat.le_trans hn (by decide))).mono ?_; rintro e' w1 ⟨rfl, hI1⟩) | (go_at_call 57; refine (watch_calls hI1 _ hl1).mono ?_; rintro e' w2 ⟨rfl, hI2⟩; rw [HS1.out] at hI2; obtain ⟨vs2, vo2, hc2⟩ := hI2.cs; have fr2 := hc2.fr; have k122 : w2.cell? ⟨b, 12, none⟩ = some (.int .i64 e.rst) := hc2.c12; have k332 : w2.cell? ⟨b, 33, none⟩ = some (.int .i64 (s1).sub) := hc2.c33; have k382 : w2.cell? ⟨b, 38, none⟩ = some (.bool s.stopping) := hc2.c38.trans (by rw [HST.out]); have k392 : w2.cell? ⟨b, 39, none⟩ = some (.int .i64 s.result) := hc2.c39.trans (by rw [HRE.out]); have k172 : w2.cell? ⟨b, 17, none⟩ = some (.int .i64 e.rsec) := hc2.c17; clear hc2))
          first | go_end0 | ((try simp only [Exit.inBlock, Exit.then]); refine bodyPost_ret (results_none rfl _ _ _) rfl ?_)
          exact ⟨rfl, hI2.set33 1⟩
      | true =>
        cases h4 : (s.result != 0) with
        | true =>
          rw [if_pos rfl]
          go_enter Try.func63, Try.ntmps63
          go_wp2_with (first | (go_at_call 51; refine (idle_calls ((((hI.set34 0).set35 0).set36 0).set40 false) (Nat.le_trans hn (by decide))).mono ?_; rintro e' w1 ⟨rfl, hI1⟩) | (go_at_call 57; refine (watch_calls hI1 _ hl1).mono ?_; rintro e' w2 ⟨rfl, hI2⟩; rw [HS1.out] at hI2; obtain ⟨vs2, vo2, hc2⟩ := hI2.cs; have fr2 := hc2.fr; have k122 : w2.cell? ⟨b, 12, none⟩ = some (.int .i64 e.rst) := hc2.c12; have k332 : w2.cell? ⟨b, 33, none⟩ = some (.int .i64 (s1).sub) := hc2.c33; have k382 : w2.cell? ⟨b, 38, none⟩ = some (.bool s.stopping) := hc2.c38.trans (by rw [HST.out]); have k392 : w2.cell? ⟨b, 39, none⟩ = some (.int .i64 s.result) := hc2.c39.trans (by rw [HRE.out]); have k172 : w2.cell? ⟨b, 17, none⟩ = some (.int .i64 e.rsec) := hc2.c17; clear hc2) | (go_at_call 58; refine (after_calls ((hI2.set33 10).set39 0) _).mono ?_; rintro e' w3 ⟨rfl, hI3⟩) | (go_at_call 60; refine (timer_calls hI3 _ hl3).mono ?_; rintro e' w4 ⟨rfl, hI4⟩))
          first | go_end0 | ((try simp only [Exit.inBlock, Exit.then]); refine bodyPost_ret (results_none rfl _ _ _) rfl ?_)
          exact ⟨rfl, hI4⟩
        | false =>
          rw [if_neg (by decide), if_neg (by decide)]
          go_enter Try.func63, Try.ntmps63
          go_wp2_with (first | (go_at_call 51; refine (idle_calls ((((hI.set34 0).set35 0).set36 0).set40 false) (Nat.le_trans hn (by decide))).mono ?_; rintro e' w1 ⟨rfl, hI1⟩) | (go_at_call 57; refine (watch_calls hI1 _ hl1).mono ?_; rintro e' w2 ⟨rfl, hI2⟩; rw [HS1.out] at hI2; obtain ⟨vs2, vo2, hc2⟩ := hI2.cs; have fr2 := hc2.fr; have k122 : w2.cell? ⟨b, 12, none⟩ = some (.int .i64 e.rst) := hc2.c12; have k332 : w2.cell? ⟨b, 33, none⟩ = some (.int .i64 (s1).sub) := hc2.c33; have k382 : w2.cell? ⟨b, 38, none⟩ = some (.bool s.stopping) := hc2.c38.trans (by rw [HST.out]); have k392 : w2.cell? ⟨b, 39, none⟩ = some (.int .i64 s.result) := hc2.c39.trans (by rw [HRE.out]); have k172 : w2.cell? ⟨b, 17, none⟩ = some (.int .i64 e.rsec) := hc2.c17; clear hc2))
          first | go_end0 | ((try simp only [Exit.inBlock, Exit.then]); refine bodyPost_ret (results_none rfl _ _ _) rfl ?_)
          exact ⟨rfl, hI2.set33 1⟩
end Go.Proofs.Ytnoddedgkgkfhaa.Svc
