/- The inputs as an iterator: each is told in order, as long as more are asked for. -/
import Derived.RangeFuncNested
import Derived.RangeFuncBound
import Derived.RangeFuncCalls
import Derived.RangeFuncLeaves
import Derived.Shelf.Abstract
import Derived.Shelf.RegionOpen
import Derived.WalkKit
import Derived.OwnWalkIn
import Derived.TacticsInMore
import Derived.LoopNIn
import Derived.LoopIn
import Derived.Test.YtnoddedgkgkfhaaSvcR
namespace Go.Proofs.Ytnoddedgkgkfhaa.Svc
open Go.RowKit Go.Shelf Go.Proofs.YtnoddedgkgkfhaaW.PrintWords Go.Proofs.YtnoddedgkgkfhaaW.PrintLast
attribute [local go_sem] Oper.semAt_some
set_option linter.unusedVariables false
set_option linter.unusedSimpArgs false
/-- what a round keeps for the iterator: what lay there when the law began, and the box of the inputs -/
def KpI (n0 gl : Nat) (A B : World) : Prop := Below n0 A B ∧ B.heap[gl]? = A.heap[gl]?
theorem KpI.trans {n0 gl : Nat} {A B C : World} (h : KpI n0 gl A B) (k : KpI n0 gl B C) : KpI n0 gl A C := ⟨h.1.trans k.1, k.2.trans h.2⟩
set_option maxRecDepth 100000 in
set_option maxHeartbeats 4000000 in
theorem inputs_in (n l gl n0 : Nat) (hn : 1 ≤ n) (A1 : Option Addr) (c1 : Nat) (l1 : List S38) (J Jx : List S38 → World → Prop) (W : World)
    (hY : ∀ pre x W1, J pre W1 → l1[pre.length]? = some x → YieldAt Fence.wide (n - 1) Try.prog l #[.agg (inC x)] W1 fun e W' =>
      (e = .returned (.bool true) ∧ J (pre ++ [x]) W' ∧ KpI n0 gl W1 W') ∨ (e = .returned (.bool false) ∧ Jx (pre ++ [x]) W'))
    (hB : W.heap[gl]? = some (.cells #[.slice A1 l1.length c1] 25 (0, 0))) (hl : l1.length ≤ 9223372036854775807)
    (hC : ∀ k x, l1[k]? = some x → ∃ ad, A1 = some ad ∧ ∀ X, Below n0 W X → X.cell? (ad.add (k * 5)) = some (.int .i64 x.f0) ∧ X.cell? ⟨(ad.add (k * 5)).block, (ad.add (k * 5)).off + 1, none⟩ = some (.int .i64 x.f1) ∧ X.cell? ⟨(ad.add (k * 5)).block, (ad.add (k * 5)).off + 2, none⟩ = some (.int .i64 x.f2) ∧ X.cell? ⟨(ad.add (k * 5)).block, (ad.add (k * 5)).off + 3, none⟩ = some (.string x.f3) ∧ X.cell? ⟨(ad.add (k * 5)).block, (ad.add (k * 5)).off + 4, none⟩ = some (.int .i64 x.f4)) (h0 : J [] W) :
    CallsIn Fence.wide n Try.prog 36 #[.func (.yield l) #[] #[], .pointer (some ⟨gl, 0, none⟩)] W fun e W' => (∃ v, e = .returned v) ∧ ((∃ xs, xs = l1 ∧ J xs W') ∨ (∃ pre, pre <+: l1 ∧ Jx pre W')) := by
  refine callsIn_of_wp Try.func36 rfl trivial ?_ rfl
  simp only [Try.ntmps36, List.size_toArray, List.length_cons, List.length_nil, Nat.reduceAdd, Nat.reduceSub, Array.replicate_succ, Array.replicate_zero, List.push_toArray, List.append_toArray, List.nil_append, List.cons_append]
  gi_wp2
  gi_loopw [3] (fun i wr => ∃ k : Nat, i = .int .i64 k ∧ k ≤ l1.length ∧ J (l1.take k) wr ∧ wr.heap[gl]? = some (.cells #[.slice A1 l1.length c1] 25 (0, 0)) ∧ Below n0 W wr) (fun i _ => l1.length - (intOf i).toNat)
  case atStart => exact ⟨0, rfl, Nat.zero_le _, h0, hB, Below.refl _ _⟩
  case round =>
    obtain ⟨k, rfl, hk, hJk, hbk, hbel⟩ := hrel
    have hc := (blk_cell hbk 0).trans rfl
    by_cases hlt : k < l1.length
    · obtain ⟨x, hx⟩ : ∃ x, l1[k]? = some x := ⟨_, List.getElem?_eq_getElem hlt⟩
      obtain ⟨ad, hA, hcs⟩ := hC k x hx
      subst hA
      obtain ⟨x0, x1, x2, x3, x4⟩ := hcs wr hbel
      have c1b : decide ((k : Int) < (l1.length : Int)) = true := decide_eq_true (by omega)
      have c1c : decide (k < l1.length) = true := decide_eq_true hlt
      have pk : (0 ≤ (k : Int)) = True := eq_true (by omega)
      have qk : ((k : Int) < (l1.length : Int)) = True := eq_true (by omega)
      have HW := Aside0.mk (show wrap64 ((k : Int) + 1) = ((k + 1 : Nat) : Int) from wrap_len hlt hl)
      have htk : l1.take k ++ [x] = l1.take (k + 1) := by
        rw [List.take_succ_eq_append_getElem hlt, (List.getElem?_eq_some_iff.1 hx).2]
      obtain ⟨fn, tmps, assign, body, hy, hR⟩ := hY (l1.take k) x wr hJk (by rw [List.length_take, Nat.min_eq_left (Nat.le_of_lt hlt)]; exact hx)
      rw [htk] at hR
      dsimp only [inC] at hy
      have HLT := Aside0.mk hlt
      clear hlt
      gi_wp2
      refine hR.mono ?_
      rintro e W3 (⟨rfl, hJ3, hk3⟩ | ⟨rfl, hJx3⟩)
      · gi_wp2
        refine ⟨⟨k + 1, by rw [HW.out], HLT.out, hJ3, hk3.2.trans hbk, hbel.trans hk3.1⟩, ?_⟩
        have h5 := HLT.out
        rw [HW.out]
        simp only [intOf]
        omega
      · gi_wp2
        first | go_end0 | ((try simp only [Exit.inBlock, Exit.then]); refine bodyPost_ret (results_none rfl _ _ _) rfl ?_)
        exact ⟨⟨_, rfl⟩, .inr ⟨l1.take (k + 1), List.take_prefix _ _, hJx3⟩⟩
    · obtain rfl : k = l1.length := by omega
      rw [List.take_length] at hJk
      gi_wp2
      go_end0
      exact ⟨⟨_, rfl⟩, .inl ⟨_, rfl, hJk⟩⟩
end Go.Proofs.Ytnoddedgkgkfhaa.Svc
