/- The small steps of an automaton: what it wants, its timer, its watchdog, its signals, its processes. -/
import Derived.Test.YtnoddedgkgkfhaaSvcA
namespace Go.Proofs.Ytnoddedgkgkfhaa.Svc
open Go.RowKit Go.Proofs.YtnoddedgkgkfhaaW.PrintWords Go.Proofs.YtnoddedgkgkfhaaW.PrintLast
attribute [local go_sem] Oper.semAt_some
set_option linter.unusedVariables false
theorem six_new (w : World) (a : S41) : ∀ j u, (cellsA a)[j]? = some u → (w.alloc (.cells #[.int .i64 a.f0, .int .i64 a.f1, .int .i64 a.f2, .int .i64 a.f3, .string a.f4, .int .i64 a.f5] 41)).cell? ((⟨w.heap.size, 0, none⟩ : Addr).add j) = some u := by
  intro j u hj
  have hb : (w.alloc (.cells #[.int .i64 a.f0, .int .i64 a.f1, .int .i64 a.f2, .int .i64 a.f3, .string a.f4, .int .i64 a.f5] 41)).heap[w.heap.size]? = some (.cells #[.int .i64 a.f0, .int .i64 a.f1, .int .i64 a.f2, .int .i64 a.f3, .string a.f4, .int .i64 a.f5] 41) := World.alloc_heap_new w _
  match j, hj with
  | 0, hj => obtain rfl := Option.some.inj hj; show World.cell? _ ⟨w.heap.size, 0 + 0, none⟩ = _; unfold World.cell?; rw [hb]; rfl
  | 1, hj => obtain rfl := Option.some.inj hj; show World.cell? _ ⟨w.heap.size, 0 + 1, none⟩ = _; unfold World.cell?; rw [hb]; rfl
  | 2, hj => obtain rfl := Option.some.inj hj; show World.cell? _ ⟨w.heap.size, 0 + 2, none⟩ = _; unfold World.cell?; rw [hb]; rfl
  | 3, hj => obtain rfl := Option.some.inj hj; show World.cell? _ ⟨w.heap.size, 0 + 3, none⟩ = _; unfold World.cell?; rw [hb]; rfl
  | 4, hj => obtain rfl := Option.some.inj hj; show World.cell? _ ⟨w.heap.size, 0 + 4, none⟩ = _; unfold World.cell?; rw [hb]; rfl
  | 5, hj => obtain rfl := Option.some.inj hj; show World.cell? _ ⟨w.heap.size, 0 + 5, none⟩ = _; unfold World.cell?; rw [hb]; rfl
def addF (a b : Int) : Int := (span_Add.f 5 a b).getD 0
theorem addF_some (a b : Int) : span_Add.f 5 a b = some (addF a b) := by
  unfold addF span_Add.f span_Add.j0 span_Add.j1
  repeat' split
  all_goals first | rfl | simp_all
def resultS (s : S) (r : Int) : S := add s ⟨5, 0, 0, r, ⟨#[]⟩, 0⟩
def timerS (s : S) (t : Int) : S := add s ⟨3, 0, 0, 0, ⟨#[]⟩, t⟩
def idleS (s : S) : S := timerS s 9223372036854775807
def afterS (e : En) (n : Int) : Int := addF e.now n
def watchS (e : En) (s : S) (t : Int) : S := if e.wdog > 0 then add s ⟨4, 0, 0, 0, ⟨#[]⟩, t⟩ else s
def spoilsS (s : S) (r : Int) : S := if s.result = 0 then { s with result := r } else s
def aloneS (e : En) (s : S) : Bool := e.kil == 2 && s.main == 0 && s.control == 0
variable {w0 W : World} {b : Nat} {e : En} {s : S}
set_option maxRecDepth 100000
theorem result_calls (hI : Inv w0 W b e s) (r : Int) (hn : s.out.length ≤ 1000) :
    Calls Try.prog 50 #[.pointer (some ⟨b, 0, none⟩), .int .i64 r] W fun e' W' => e' = .returned (.tuple #[]) ∧ Inv w0 W' b e (resultS s r) := by
  go_enter Try.func50, Try.ntmps50
  go_wp2_with (go_at_call 67; refine (wants_calls w0 _ b e s (hI.alloc _) _ ⟨5, 0, 0, r, ⟨#[]⟩, 0⟩ (six_new _ _) hn).mono ?_; rintro e' w1 ⟨rfl, hI1⟩)
  first | go_end0 | ((try simp only [Exit.inBlock, Exit.then]); refine bodyPost_ret (results_none rfl _ _ _) rfl ?_)
  exact ⟨rfl, hI1⟩
theorem timer_calls (hI : Inv w0 W b e s) (t : Int) (hn : s.out.length ≤ 1000) :
    Calls Try.prog 60 #[.pointer (some ⟨b, 0, none⟩), .int .i64 t] W fun e' W' => e' = .returned (.tuple #[]) ∧ Inv w0 W' b e (timerS s t) := by
  go_enter Try.func60, Try.ntmps60
  go_wp2_with (go_at_call 67; refine (wants_calls w0 _ b e s (hI.alloc _) _ ⟨3, 0, 0, 0, ⟨#[]⟩, t⟩ (six_new _ _) hn).mono ?_; rintro e' w1 ⟨rfl, hI1⟩)
  first | go_end0 | ((try simp only [Exit.inBlock, Exit.then]); refine bodyPost_ret (results_none rfl _ _ _) rfl ?_)
  exact ⟨rfl, hI1⟩
theorem idle_calls (hI : Inv w0 W b e s) (hn : s.out.length ≤ 1000) :
    Calls Try.prog 51 #[.pointer (some ⟨b, 0, none⟩)] W fun e' W' => e' = .returned (.tuple #[]) ∧ Inv w0 W' b e (idleS s) := by
  go_enter Try.func51, Try.ntmps51
  go_wp2_with (go_at_call 60; refine (timer_calls hI 9223372036854775807 hn).mono ?_; rintro e' w1 ⟨rfl, hI1⟩)
  first | go_end0 | ((try simp only [Exit.inBlock, Exit.then]); refine bodyPost_ret (results_none rfl _ _ _) rfl ?_)
  exact ⟨rfl, hI1⟩
theorem after_calls (hI : Inv w0 W b e s) (n : Int) :
    Calls Try.prog 58 #[.pointer (some ⟨b, 0, none⟩), .int .i64 n] W fun e' W' => e' = .returned (.int .i64 (afterS e n)) ∧ Inv w0 W' b e s := by
  obtain ⟨vs, vo, hc⟩ := hI.cs
  have c45 := hc.c45
  clear hc
  go_enter Try.func58, Try.ntmps58
  go_wp2_with (go_at_call 70; refine (span_Add.calls 5 _ _ _ _ (addF_some _ _)).mono ?_; rintro e' w1 ⟨rfl, nd, rfl⟩)
  go_ret
  exact ⟨rfl, hI.below (pw_below_drewN (Below.refl _ _) nd)⟩
theorem watch_calls (hI : Inv w0 W b e s) (t : Int) (hn : s.out.length ≤ 1000) :
    Calls Try.prog 57 #[.pointer (some ⟨b, 0, none⟩), .int .i64 t] W fun e' W' => e' = .returned (.tuple #[]) ∧ Inv w0 W' b e (watchS e s t) := by
  obtain ⟨vs, vo, hc⟩ := hI.cs
  have c20 := hc.c20
  clear hc
  unfold watchS
  by_cases hw : 0 < e.wdog
  · rw [if_pos hw]
    have hd : decide (0 < e.wdog) = true := decide_eq_true hw
    clear hw
    go_enter Try.func57, Try.ntmps57
    go_wp2_with (go_at_call 67; refine (wants_calls w0 _ b e s (hI.alloc _) _ ⟨4, 0, 0, 0, ⟨#[]⟩, t⟩ (six_new _ _) hn).mono ?_; rintro e' w1 ⟨rfl, hI1⟩)
    first | go_end0 | ((try simp only [Exit.inBlock, Exit.then]); refine bodyPost_ret (results_none rfl _ _ _) rfl ?_)
    exact ⟨rfl, hI1⟩
  · rw [if_neg hw]
    have hd : decide (0 < e.wdog) = false := decide_eq_false hw
    clear hw
    go_enter Try.func57, Try.ntmps57
    go_wp2
    first | go_end0 | ((try simp only [Exit.inBlock, Exit.then]); refine bodyPost_ret (results_none rfl _ _ _) rfl ?_)
    exact ⟨rfl, hI⟩
theorem spoils_calls (hI : Inv w0 W b e s) (r : Int) :
    Calls Try.prog 62 #[.pointer (some ⟨b, 0, none⟩), .int .i64 r] W fun e' W' => e' = .returned (.tuple #[]) ∧ Inv w0 W' b e (spoilsS s r) := by
  obtain ⟨vs, vo, hc⟩ := hI.cs
  have c39 := hc.c39
  have fr := hc.fr 39
  clear hc
  unfold spoilsS
  by_cases hw : s.result = 0
  · rw [if_pos hw]
    have hd : (s.result == 0) = true := beq_iff_eq.2 hw
    clear hw
    go_enter Try.func62, Try.ntmps62
    go_wp2
    first | go_end0 | ((try simp only [Exit.inBlock, Exit.then]); refine bodyPost_ret (results_none rfl _ _ _) rfl ?_)
    exact ⟨rfl, hI.set39 r⟩
  · rw [if_neg hw]
    have hd : (s.result == 0) = false := beq_eq_false_iff_ne.2 hw
    clear hw
    go_enter Try.func62, Try.ntmps62
    go_wp2
    first | go_end0 | ((try simp only [Exit.inBlock, Exit.then]); refine bodyPost_ret (results_none rfl _ _ _) rfl ?_)
    exact ⟨rfl, hI⟩
theorem alone_calls (hI : Inv w0 W b e s) :
    Calls Try.prog 64 #[.pointer (some ⟨b, 0, none⟩)] W fun e' W' => e' = .returned (.bool (aloneS e s)) ∧ Inv w0 W' b e s := by
  obtain ⟨vs, vo, hc⟩ := hI.cs
  have c13 := hc.c13
  have c34 := hc.c34
  have c35 := hc.c35
  clear hc
  unfold aloneS
  cases h1 : (e.kil == 2) with
  | false =>
    go_enter Try.func64, Try.ntmps64
    go_wp2
    go_ret
    exact ⟨rfl, hI⟩
  | true =>
    cases h2 : (s.main == 0) with
    | false =>
      go_enter Try.func64, Try.ntmps64
      go_wp2
      go_ret
      exact ⟨rfl, hI⟩
    | true =>
      go_enter Try.func64, Try.ntmps64
      go_wp2
      go_ret
      exact ⟨by simp, hI⟩
end Go.Proofs.Ytnoddedgkgkfhaa.Svc
