/- Starts and stops. -/
import Derived.Test.YtnoddedgkgkfhaaSvcE
namespace Go.Proofs.Ytnoddedgkgkfhaa.Svc
open Go.RowKit Go.Proofs.YtnoddedgkgkfhaaW.PrintWords Go.Proofs.YtnoddedgkgkfhaaW.PrintLast
attribute [local go_sem] Oper.semAt_some
set_option linter.unusedVariables false
def startedG (e : En) (s : S) : S := if (e.typ != 4) = true then watchS e { s with sub := 4 } (afterS e e.wdog) else if e.remain = true then { s with sub := 5 } else termsS e s 0
def startedS (e : En) (s : S) : S := startedG e (resultS (add (idleS s) ⟨6, 0, 0, 0, ⟨#[]⟩, 0⟩) 1)
def launchesS (e : En) (s : S) : S := if (e.sta.length : Int) ≤ s.next then startedS e s else spawnsS e s 3 e.sta e.ssec false
def preparesS (e : En) (s : S) : S := if (e.pre.length : Int) ≤ s.next then launchesS e { s with next := 0 } else spawnsS e s 2 e.pre e.ssec false
def stopsS (e : En) (s : S) : S := if (e.sto.length : Int) ≤ s.next then termsS e s 0 else spawnsS e s 6 e.sto e.tsec true
/-- the unit's lists can be read where the automaton began to be told -/
structure Ok (w0 : World) (b : Nat) (e : En) : Prop where
  hb : w0.heap.size ≤ b
  pre : Kd.C Kd.string w0 e.Apre e.pre.length e.pre
  sta : Kd.C Kd.string w0 e.Asta e.sta.length e.sta
  sto : Kd.C Kd.string w0 e.Asto e.sto.length e.sto
variable {w0 W : World} {b : Nat} {e : En} {s : S}
theorem Inv.cs14 {X : World} (h : Inv w0 X b e s) : X.cell? ⟨b, 14, none⟩ = some (.slice e.Apre e.pre.length e.cpre) ∧ X.cell? ⟨b, 18, none⟩ = some (.int .i64 e.ssec) := by obtain ⟨_, _, hc⟩ := h.cs; exact ⟨hc.c14, hc.c18⟩
theorem Inv.cs15 {X : World} (h : Inv w0 X b e s) : X.cell? ⟨b, 15, none⟩ = some (.slice e.Asta e.sta.length e.csta) ∧ X.cell? ⟨b, 18, none⟩ = some (.int .i64 e.ssec) := by obtain ⟨_, _, hc⟩ := h.cs; exact ⟨hc.c15, hc.c18⟩
theorem Inv.cs16 {X : World} (h : Inv w0 X b e s) : X.cell? ⟨b, 16, none⟩ = some (.slice e.Asto e.sto.length e.csto) ∧ X.cell? ⟨b, 19, none⟩ = some (.int .i64 e.tsec) := by obtain ⟨_, _, hc⟩ := h.cs; exact ⟨hc.c16, hc.c19⟩
set_option maxRecDepth 100000
set_option maxHeartbeats 2000000
theorem started_calls (hI : Inv w0 W b e s) (hn : s.out.length ≤ 960) :
    Calls Try.prog 56 #[.pointer (some ⟨b, 0, none⟩)] W fun e' W' => e' = .returned (.tuple #[]) ∧ Inv w0 W' b e (startedS e s) := by
  unfold startedS
  have hl0 : s.out.length ≤ 1000 := Nat.le_trans hn (by decide)
  have hl1 : (idleS s).out.length ≤ 1000 := by rw [idle_len]; exact Nat.le_trans (Nat.succ_le_succ hn) (by decide)
  have hl2 : (add (idleS s) ⟨6, 0, 0, 0, ⟨#[]⟩, 0⟩).out.length ≤ 1000 := by
    show ((idleS s).out ++ [_]).length ≤ 1000
    rw [List.length_append, List.length_singleton, idle_len]; exact Nat.le_trans (Nat.succ_le_succ (Nat.succ_le_succ hn)) (by decide)
  have hl3 : (resultS (add (idleS s) ⟨6, 0, 0, 0, ⟨#[]⟩, 0⟩) 1).out.length ≤ 970 := by
    rw [result_len]
    show ((idleS s).out ++ [_]).length + 1 ≤ 970
    rw [List.length_append, List.length_singleton, idle_len]; exact Nat.le_trans (Nat.succ_le_succ (Nat.succ_le_succ (Nat.succ_le_succ hn))) (by decide)
  obtain ⟨s3, hs3⟩ : ∃ s3, resultS (add (idleS s) ⟨6, 0, 0, 0, ⟨#[]⟩, 0⟩) 1 = s3 := ⟨_, rfl⟩
  rw [hs3] at hl3 ⊢
  have HS3 := Aside0.mk hs3
  clear hs3
  have hl4 : ({ s3 with sub := 4 } : S).out.length ≤ 1000 := Nat.le_trans hl3 (by decide)
  have hl5 : s3.out.length ≤ 980 := Nat.le_trans hl3 (by decide)
  unfold startedG
  cases h1 : (e.typ != 4) with
  | true =>
    rw [if_pos rfl]
    go_enter Try.func56, Try.ntmps56
    go_wp2_with (first | (go_at_call 51; refine (idle_calls hI hl0).mono ?_; rintro e' w1 ⟨rfl, hI1⟩) | (go_at_call 67; refine (wants_calls w0 _ b e _ (hI1.alloc _) _ ⟨6, 0, 0, 0, ⟨#[]⟩, 0⟩ (six_new _ _) hl1).mono ?_; rintro e' w2 ⟨rfl, hI2⟩) | (go_at_call 50; refine (result_calls hI2 1 hl2).mono ?_; rintro e' w3 ⟨rfl, hI3⟩; rw [HS3.out] at hI3; obtain ⟨vs3, vo3, hc3⟩ := hI3.cs; have fr3 := hc3.fr; have k113 : w3.cell? ⟨b, 11, none⟩ = some (.int .i64 e.typ) := hc3.c11; have k203 : w3.cell? ⟨b, 20, none⟩ = some (.int .i64 e.wdog) := hc3.c20; have k233 : w3.cell? ⟨b, 23, none⟩ = some (.bool e.remain) := hc3.c23; have k333 : w3.cell? ⟨b, 33, none⟩ = some (.int .i64 (s3).sub) := hc3.c33; clear hc3) | (go_at_call 58; refine (after_calls (hI3.set33 4) _).mono ?_; rintro e' w4 ⟨rfl, hI4⟩) | (go_at_call 57; refine (watch_calls hI4 _ hl4).mono ?_; rintro e' w5 ⟨rfl, hI5⟩))
    first | go_end0 | ((try simp only [Exit.inBlock, Exit.then]); refine bodyPost_ret (results_none rfl _ _ _) rfl ?_)
    exact ⟨rfl, hI5⟩
  | false =>
    rw [if_neg (by decide)]
    cases h2 : e.remain with
    | true =>
      rw [if_pos rfl]
      go_enter Try.func56, Try.ntmps56
      go_wp2_with (first | (go_at_call 51; refine (idle_calls hI hl0).mono ?_; rintro e' w1 ⟨rfl, hI1⟩) | (go_at_call 67; refine (wants_calls w0 _ b e _ (hI1.alloc _) _ ⟨6, 0, 0, 0, ⟨#[]⟩, 0⟩ (six_new _ _) hl1).mono ?_; rintro e' w2 ⟨rfl, hI2⟩) | (go_at_call 50; refine (result_calls hI2 1 hl2).mono ?_; rintro e' w3 ⟨rfl, hI3⟩; rw [HS3.out] at hI3; obtain ⟨vs3, vo3, hc3⟩ := hI3.cs; have fr3 := hc3.fr; have k113 : w3.cell? ⟨b, 11, none⟩ = some (.int .i64 e.typ) := hc3.c11; have k203 : w3.cell? ⟨b, 20, none⟩ = some (.int .i64 e.wdog) := hc3.c20; have k233 : w3.cell? ⟨b, 23, none⟩ = some (.bool e.remain) := hc3.c23; have k333 : w3.cell? ⟨b, 33, none⟩ = some (.int .i64 (s3).sub) := hc3.c33; clear hc3))
      first | go_end0 | ((try simp only [Exit.inBlock, Exit.then]); refine bodyPost_ret (results_none rfl _ _ _) rfl ?_)
      exact ⟨rfl, hI3.set33 5⟩
    | false =>
      rw [if_neg (by decide)]
      go_enter Try.func56, Try.ntmps56
      go_wp2_with (first | (go_at_call 51; refine (idle_calls hI hl0).mono ?_; rintro e' w1 ⟨rfl, hI1⟩) | (go_at_call 67; refine (wants_calls w0 _ b e _ (hI1.alloc _) _ ⟨6, 0, 0, 0, ⟨#[]⟩, 0⟩ (six_new _ _) hl1).mono ?_; rintro e' w2 ⟨rfl, hI2⟩) | (go_at_call 50; refine (result_calls hI2 1 hl2).mono ?_; rintro e' w3 ⟨rfl, hI3⟩; rw [HS3.out] at hI3; obtain ⟨vs3, vo3, hc3⟩ := hI3.cs; have fr3 := hc3.fr; have k113 : w3.cell? ⟨b, 11, none⟩ = some (.int .i64 e.typ) := hc3.c11; have k203 : w3.cell? ⟨b, 20, none⟩ = some (.int .i64 e.wdog) := hc3.c20; have k233 : w3.cell? ⟨b, 23, none⟩ = some (.bool e.remain) := hc3.c23; have k333 : w3.cell? ⟨b, 33, none⟩ = some (.int .i64 (s3).sub) := hc3.c33; clear hc3) | (go_at_call 45; refine (terms_calls hI3 0 hl5).mono ?_; rintro e' w4 ⟨rfl, hI4⟩))
      first | go_end0 | ((try simp only [Exit.inBlock, Exit.then]); refine bodyPost_ret (results_none rfl _ _ _) rfl ?_)
      exact ⟨rfl, hI4⟩
theorem launches_calls (hk : Ok w0 b e) (hI : Inv w0 W b e s) (h0 : 0 ≤ s.next) (hn : s.out.length ≤ 950) :
    Calls Try.prog 69 #[.pointer (some ⟨b, 0, none⟩)] W fun e' W' => e' = .returned (.tuple #[]) ∧ Inv w0 W' b e (launchesS e s) := by
  have hl : s.out.length ≤ 990 := Nat.le_trans hn (by decide)
  have hq : s.out.length ≤ 960 := Nat.le_trans hn (by decide)
  obtain ⟨q1, q2⟩ := hI.cs15
  have HIc := hI.cs15
  unfold launchesS
  by_cases h : (e.sta.length : Int) ≤ s.next
  · rw [if_pos h]
    have H := Aside0.mk h
    clear h
    go_enter Try.func69, Try.ntmps69
    go_wp2
    go_region_held3 (fun w' => w'.cell? ⟨b, 15, none⟩ = some (.slice e.Asta e.sta.length e.csta) ∧ w'.cell? ⟨b, 18, none⟩ = some (.int .i64 e.ssec)) ((first | exact hI.drew.cs15 | exact hI1.cs15)) ((go_at_call 68; refine (spawns_no hI.drew 3 e.Asta e.sta e.csta e.ssec false H.out).mono ?_; rintro e' w1 ⟨rfl, hI1⟩))
    go_wp2_with (go_at_call 56; refine (started_calls hI1 hq).mono ?_; rintro e' w2 ⟨rfl, hI2⟩)
    first | go_end0 | ((try simp only [Exit.inBlock, Exit.then]); refine bodyPost_ret (results_none rfl _ _ _) rfl ?_)
    exact ⟨rfl, hI2⟩
  · rw [if_neg h]
    have H := Aside0.mk (Int.not_le.1 h)
    clear h
    go_enter Try.func69, Try.ntmps69
    go_wp2
    go_region_held3 (fun w' => w'.cell? ⟨b, 15, none⟩ = some (.slice e.Asta e.sta.length e.csta) ∧ w'.cell? ⟨b, 18, none⟩ = some (.int .i64 e.ssec)) ((first | exact hI.drew.cs15 | exact hI1.cs15)) ((go_at_call 68; refine (spawns_yes hI.drew hk.hb 3 e.Asta e.sta e.csta e.ssec false hk.sta h0 H.out hl).mono ?_; rintro e' w1 ⟨rfl, hI1⟩))
    go_wp2
    first | go_end0 | ((try simp only [Exit.inBlock, Exit.then]); refine bodyPost_ret (results_none rfl _ _ _) rfl ?_)
    exact ⟨rfl, hI1⟩
theorem stops_calls (hk : Ok w0 b e) (hI : Inv w0 W b e s) (h0 : 0 ≤ s.next) (hn : s.out.length ≤ 970) :
    Calls Try.prog 52 #[.pointer (some ⟨b, 0, none⟩)] W fun e' W' => e' = .returned (.tuple #[]) ∧ Inv w0 W' b e (stopsS e s) := by
  have hl : s.out.length ≤ 990 := Nat.le_trans hn (by decide)
  have hq : s.out.length ≤ 980 := Nat.le_trans hn (by decide)
  obtain ⟨q1, q2⟩ := hI.cs16
  have HIc := hI.cs16
  unfold stopsS
  by_cases h : (e.sto.length : Int) ≤ s.next
  · rw [if_pos h]
    have H := Aside0.mk h
    clear h
    go_enter Try.func52, Try.ntmps52
    go_wp2
    go_region_held3 (fun w' => w'.cell? ⟨b, 16, none⟩ = some (.slice e.Asto e.sto.length e.csto) ∧ w'.cell? ⟨b, 19, none⟩ = some (.int .i64 e.tsec)) ((first | exact hI.drew.cs16 | exact hI1.cs16)) ((go_at_call 68; refine (spawns_no hI.drew 6 e.Asto e.sto e.csto e.tsec true H.out).mono ?_; rintro e' w1 ⟨rfl, hI1⟩))
    go_wp2_with (go_at_call 45; refine (terms_calls hI1 0 hq).mono ?_; rintro e' w2 ⟨rfl, hI2⟩)
    first | go_end0 | ((try simp only [Exit.inBlock, Exit.then]); refine bodyPost_ret (results_none rfl _ _ _) rfl ?_)
    exact ⟨rfl, hI2⟩
  · rw [if_neg h]
    have H := Aside0.mk (Int.not_le.1 h)
    clear h
    go_enter Try.func52, Try.ntmps52
    go_wp2
    go_region_held3 (fun w' => w'.cell? ⟨b, 16, none⟩ = some (.slice e.Asto e.sto.length e.csto) ∧ w'.cell? ⟨b, 19, none⟩ = some (.int .i64 e.tsec)) ((first | exact hI.drew.cs16 | exact hI1.cs16)) ((go_at_call 68; refine (spawns_yes hI.drew hk.hb 6 e.Asto e.sto e.csto e.tsec true hk.sto h0 H.out hl).mono ?_; rintro e' w1 ⟨rfl, hI1⟩))
    go_wp2
    first | go_end0 | ((try simp only [Exit.inBlock, Exit.then]); refine bodyPost_ret (results_none rfl _ _ _) rfl ?_)
    exact ⟨rfl, hI1⟩
theorem prepares_calls (hk : Ok w0 b e) (hI : Inv w0 W b e s) (h0 : 0 ≤ s.next) (hn : s.out.length ≤ 940) :
    Calls Try.prog 66 #[.pointer (some ⟨b, 0, none⟩)] W fun e' W' => e' = .returned (.tuple #[]) ∧ Inv w0 W' b e (preparesS e s) := by
  have hl : s.out.length ≤ 990 := Nat.le_trans hn (by decide)
  have hq : ({ s with next := 0 } : S).out.length ≤ 950 := Nat.le_trans hn (by decide)
  obtain ⟨q1, q2⟩ := hI.cs14
  have HIc := hI.cs14
  unfold preparesS
  by_cases h : (e.pre.length : Int) ≤ s.next
  · rw [if_pos h]
    have H := Aside0.mk h
    clear h
    go_enter Try.func66, Try.ntmps66
    go_wp2
    go_region_held3 (fun w' => w'.cell? ⟨b, 14, none⟩ = some (.slice e.Apre e.pre.length e.cpre) ∧ w'.cell? ⟨b, 18, none⟩ = some (.int .i64 e.ssec)) ((first | exact hI.drew.cs14 | exact hI1.cs14)) ((go_at_call 68; refine (spawns_no hI.drew 2 e.Apre e.pre e.cpre e.ssec false H.out).mono ?_; rintro e' w1 ⟨rfl, hI1⟩))
    obtain ⟨vs1, vo1, hc1⟩ := hI1.cs; have fr1 := hc1.fr; have k36 : w1.cell? ⟨b, 36, none⟩ = some (.int .i64 s.next) := hc1.c36; clear hc1; go_wp2_with (go_at_call 69; refine (launches_calls hk (hI1.set36 0) (Int.le_refl 0) hq).mono ?_; rintro e' w2 ⟨rfl, hI2⟩)
    first | go_end0 | ((try simp only [Exit.inBlock, Exit.then]); refine bodyPost_ret (results_none rfl _ _ _) rfl ?_)
    exact ⟨rfl, hI2⟩
  · rw [if_neg h]
    have H := Aside0.mk (Int.not_le.1 h)
    clear h
    go_enter Try.func66, Try.ntmps66
    go_wp2
    go_region_held3 (fun w' => w'.cell? ⟨b, 14, none⟩ = some (.slice e.Apre e.pre.length e.cpre) ∧ w'.cell? ⟨b, 18, none⟩ = some (.int .i64 e.ssec)) ((first | exact hI.drew.cs14 | exact hI1.cs14)) ((go_at_call 68; refine (spawns_yes hI.drew hk.hb 2 e.Apre e.pre e.cpre e.ssec false hk.pre h0 H.out hl).mono ?_; rintro e' w1 ⟨rfl, hI1⟩))
    go_wp2
    first | go_end0 | ((try simp only [Exit.inBlock, Exit.then]); refine bodyPost_ret (results_none rfl _ _ _) rfl ?_)
    exact ⟨rfl, hI1⟩
end Go.Proofs.Ytnoddedgkgkfhaa.Svc
