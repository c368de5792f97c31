/- Steps of an automaton that send signals, begin processes and end. -/
import Derived.Test.YtnoddedgkgkfhaaSvcB
namespace Go.Proofs.Ytnoddedgkgkfhaa.Svc
open Go.RowKit Go.Proofs.YtnoddedgkgkfhaaW.PrintWords Go.Proofs.YtnoddedgkgkfhaaW.PrintLast
attribute [local go_sem] Oper.semAt_some
set_option linter.unusedVariables false
def kill1 (e : En) (s : S) (pid sig : Int) : S := if (e.kil == 2 && pid != 0) = true then add s ⟨2, pid, sig, 0, ⟨#[]⟩, 0⟩ else s
def killsS (e : En) (s : S) (sig : Int) : S := if (e.kil == 1) = true then add s ⟨2, 0, sig, 0, ⟨#[]⟩, 0⟩ else kill1 e (kill1 e s s.main sig) s.control sig
def endsS (e : En) (s : S) : S :=
  let s1 := watchS e (idleS { s with main := 0, control := 0, next := 0, waiting := false }) 9223372036854775807
  if s.stopping = true then resultS { s1 with sub := 1, result := 0, stopping := false } 1
  else if (e.rst == 3 || e.rst == 2 && s.result != 0) = true then timerS { s1 with sub := 10, result := 0 } (afterS e e.rsec)
  else if (s.result != 0) = true then { s1 with sub := 9 } else { s1 with sub := 1 }
def termsG (e : En) (s1 : S) : S :=
  if (e.kil == 3 || aloneS e s1) = true then endsS e s1
  else killsS e (watchS e (timerS { s1 with sub := 7 } (afterS e e.tsec)) 9223372036854775807) 15
def termsS (e : En) (s : S) (r : Int) : S := termsG e { spoilsS s r with waiting := false }
def KRel (w0 : World) (b : Nat) (e : En) (s : S) (sig : Int) (wr : World) (i : Value) : Prop := (i = .int .i64 0 ∧ Inv w0 wr b e s) ∨ (i = .int .i64 1 ∧ Inv w0 wr b e (kill1 e s s.main sig)) ∨ (i = .int .i64 2 ∧ Inv w0 wr b e (kill1 e (kill1 e s s.main sig) s.control sig))
theorem kill1_no (e : En) (s : S) (p sig : Int) (h : (e.kil == 2 && p != 0) = false) : kill1 e s p sig = s := by unfold kill1; rw [if_neg (by rw [h]; decide)]
theorem kill1_yes (e : En) (s : S) (p sig : Int) (h : (e.kil == 2 && p != 0) = true) : kill1 e s p sig = add s ⟨2, p, sig, 0, ⟨#[]⟩, 0⟩ := by unfold kill1; rw [if_pos h]
theorem kill1_len (e : En) (s : S) (p sig : Int) : (kill1 e s p sig).out.length ≤ s.out.length + 1 := by
  unfold kill1 add; split
  · simp
  · omega
variable {w0 W : World} {b : Nat} {e : En} {s : S}
set_option maxRecDepth 100000
set_option maxHeartbeats 1000000
theorem idx0 (m c : Int) (w : World) : (Instr.index 87 (.agg #[.int .i64 m, .int .i64 c]) (.int .i64 0)).run Try.prog w = .ok (.int .i64 m) w := by kernel_rfl
theorem idx1 (m c : Int) (w : World) : (Instr.index 87 (.agg #[.int .i64 m, .int .i64 c]) (.int .i64 1)).run Try.prog w = .ok (.int .i64 c) w := by kernel_rfl
theorem kills_calls (hI : Inv w0 W b e s) (sig : Int) (hn : s.out.length ≤ 998) :
    Calls Try.prog 61 #[.pointer (some ⟨b, 0, none⟩), .int .i64 sig] W fun e' W' => e' = .returned (.tuple #[]) ∧ Inv w0 W' b e (killsS e s sig) := by
  obtain ⟨vs, vo, hc⟩ := hI.cs
  have c13 := hc.c13
  have c34 := hc.c34
  have c35 := hc.c35
  clear hc
  unfold killsS
  cases h1 : (e.kil == 1) with
  | true =>
    rw [if_pos rfl]
    go_enter Try.func61, Try.ntmps61
    go_wp2_with (go_at_call 67; refine (wants_calls w0 _ b e s (hI.alloc _) _ ⟨2, 0, sig, 0, ⟨#[]⟩, 0⟩ (six_new _ _) (by omega)).mono ?_; rintro e' w1 ⟨rfl, hI1⟩)
    first | go_end0 | ((try simp only [Exit.inBlock, Exit.then]); refine bodyPost_ret (results_none rfl _ _ _) rfl ?_)
    exact ⟨rfl, hI1⟩
  | false =>
    rw [if_neg (by decide)]
    go_enter Try.func61, Try.ntmps61
    go_wp2
    go_region_held3 (fun w' => w'.cell? ⟨b, 34, none⟩ = some (.int .i64 s.main) ∧ w'.cell? ⟨b, 35, none⟩ = some (.int .i64 s.control)) (go_keep) (fail)
    go_wp2
    have i0 := fun w => idx0 s.main s.control w
    have i1 := fun w => idx1 s.main s.control w
    go_loopw [5, 28] (fun _ i wr => KRel w0 b e s sig wr i) (fun _ i _ => 2 - (intOf i).toNat)
    case atStart => exact .inl ⟨rfl, hI.drew⟩
    case round =>
      rcases hrel with ⟨rfl, hI1⟩ | ⟨rfl, hI1⟩ | ⟨rfl, hI1⟩
      · have hlen : (s).out.length ≤ 1000 := by omega
        obtain ⟨vs1, vo1, hc1⟩ := hI1.cs
        have k13 : wr.cell? ⟨b, 13, none⟩ = some (.int .i64 e.kil) := hc1.c13
        clear hc1
        cases h2 : (e.kil == 2) with
        | false =>
          have hk : kill1 e (s) s.main sig = s := kill1_no _ _ _ _ (by rw [h2]; rfl)
          have HK := Aside0.mk hk
          clear hk
          go_wp2
          go_roundw
          case rel => exact .inr <| .inl ⟨rfl, by rw [HK.out]; exact hI1⟩
          case measure => simp [intOf]
        | true =>
          cases h3 : (s.main != 0) with
          | false =>
            have hk : kill1 e (s) s.main sig = s := kill1_no _ _ _ _ (by rw [h2, h3]; rfl)
            have HK := Aside0.mk hk
            clear hk
            go_wp2
            go_roundw
            case rel => exact .inr <| .inl ⟨rfl, by rw [HK.out]; exact hI1⟩
            case measure => simp [intOf]
          | true =>
            have hk : kill1 e (s) s.main sig = add (s) ⟨2, s.main, sig, 0, ⟨#[]⟩, 0⟩ := kill1_yes _ _ _ _ (by rw [h2, h3]; rfl)
            have HK := Aside0.mk hk
            clear hk
            go_wp2_with (go_at_call 67; refine (wants_calls w0 _ b e _ (hI1.alloc _) _ ⟨2, s.main, sig, 0, ⟨#[]⟩, 0⟩ (six_new _ _) hlen).mono ?_; rintro e' w1 ⟨rfl, hI2⟩)
            go_roundw
            case rel => exact .inr <| .inl ⟨rfl, by rw [HK.out]; exact hI2⟩
            case measure => simp [intOf]
      · have hlen : (kill1 e s s.main sig).out.length ≤ 1000 := Nat.le_trans (kill1_len _ _ _ _) (by omega)
        obtain ⟨vs1, vo1, hc1⟩ := hI1.cs
        have k13 : wr.cell? ⟨b, 13, none⟩ = some (.int .i64 e.kil) := hc1.c13
        clear hc1
        cases h2 : (e.kil == 2) with
        | false =>
          have hk : kill1 e (kill1 e s s.main sig) s.control sig = kill1 e s s.main sig := kill1_no _ _ _ _ (by rw [h2]; rfl)
          have HK := Aside0.mk hk
          clear hk
          go_wp2
          go_roundw
          case rel => exact .inr <| .inr ⟨rfl, by rw [HK.out]; exact hI1⟩
          case measure => simp [intOf]
        | true =>
          cases h3 : (s.control != 0) with
          | false =>
            have hk : kill1 e (kill1 e s s.main sig) s.control sig = kill1 e s s.main sig := kill1_no _ _ _ _ (by rw [h2, h3]; rfl)
            have HK := Aside0.mk hk
            clear hk
            go_wp2
            go_roundw
            case rel => exact .inr <| .inr ⟨rfl, by rw [HK.out]; exact hI1⟩
            case measure => simp [intOf]
          | true =>
            have hk : kill1 e (kill1 e s s.main sig) s.control sig = add (kill1 e s s.main sig) ⟨2, s.control, sig, 0, ⟨#[]⟩, 0⟩ := kill1_yes _ _ _ _ (by rw [h2, h3]; rfl)
            have HK := Aside0.mk hk
            clear hk
            go_wp2_with (go_at_call 67; refine (wants_calls w0 _ b e _ (hI1.alloc _) _ ⟨2, s.control, sig, 0, ⟨#[]⟩, 0⟩ (six_new _ _) hlen).mono ?_; rintro e' w1 ⟨rfl, hI2⟩)
            go_roundw
            case rel => exact .inr <| .inr ⟨rfl, by rw [HK.out]; exact hI2⟩
            case measure => simp [intOf]
      · go_wp2
        first | go_end0 | ((try simp only [Exit.inBlock, Exit.then]); refine bodyPost_ret (results_none rfl _ _ _) rfl ?_)
        exact ⟨rfl, hI1⟩
end Go.Proofs.Ytnoddedgkgkfhaa.Svc
