/- SpanLeast's iterator: it counts what it gives, and gives the row's numbers in order. -/
import Derived.RangeFuncNested
import Derived.RangeFuncBound
import Derived.RangeFuncCalls
import Derived.RangeFuncLeaves
import Derived.RangeFuncBox
import Derived.Shelf.Abstract
import Derived.Shelf.RegionOpen
import Derived.WalkKit
import Derived.OwnWalkIn
import Derived.TacticsInMore
import Derived.LoopNIn
import Derived.LoopIn
import Derived.Test.YtfpfdeechhaheaaDoorReadsK
namespace Go.Proofs.YtfpfdeechhaheaaDoor.Least
open Go.RowKit Go.Shelf
attribute [local go_sem] Oper.semAt_some
set_option linter.unusedVariables false
theorem Boxed.apart {W : World} {B G : Nat} {t : TypeId} {v u : Value} (h : Boxed W B t v) (hne : B ≠ G) : Boxed (W.setCell ⟨G, 0, none⟩ u) B t v :=
  h.kept (grownBy_setCell' W G u) (fun e => hne (Option.some.inj e))
theorem Boxed.under {n : Nat} {W W' : World} {B : Nat} {t : TypeId} {v : Value} (h : Boxed W B t v) (hb : Below n W W') (hn : B < n) : Boxed W' B t v := (hb.block B hn).trans h
set_option maxRecDepth 100000 in
set_option maxHeartbeats 2000000 in
theorem iter_in (F : Fence) (n : Nat) (h15 : F.fn 15) (hro : F.round = none) (hn : 1 ≤ n) (l Bs G n1 : Nat) (A : Option Addr) (cap : Nat) (zs : List Int) (hlen : zs.length ≤ 200) (J : List Int → World → Prop)
    (hJ : ∀ s W v, J s W → J s (W.setCell ⟨G, 0, none⟩ v))
    (hY : ∀ pre x W, J pre W → pre.length < zs.length → YieldAt F (n - 1) Tryd.prog l #[.int .i64 x] W fun e W' => e = .returned (.bool true) ∧ J (pre ++ [x]) W' ∧ Below n1 W W')
    (W : World) (hB : Boxed W Bs 39 (.slice A zs.length cap)) (hG : Boxed W G 3 (.int .i64 0)) (hBn : Bs < n1) (hGn : G < n1) (hne : Bs ≠ G)
    (hc : ∀ j, j < zs.length → ∃ ad, A = some ad ∧ ad.block < n1 ∧ ad.block ≠ G ∧ W.cell? (ad.add j) = some (.int .i64 (zs[j]?.getD 0)))
    (h0 : J [] W) :
    CallsIn F n Tryd.prog 15 #[.func (.yield l) #[] #[], .pointer (some ⟨Bs, 0, none⟩), .pointer (some ⟨G, 0, none⟩)] W fun e W' => (∃ v, e = .returned v) ∧ J zs W' ∧ Boxed W' Bs 39 (.slice A zs.length cap) ∧ Boxed W' G 3 (.int .i64 zs.length) := by
  refine callsIn_of_wp Tryd.func15 rfl h15 ?_ hro
  simp only [Tryd.ntmps15, List.size_toArray, List.length_cons, List.length_nil, Nat.reduceAdd, Nat.reduceSub, Array.replicate_succ, Array.replicate_zero, List.push_toArray, List.append_toArray, List.nil_append, List.cons_append]
  gi_wp2
  gi_loopw [4] (fun i wr => ∃ k : Nat, k ≤ zs.length ∧ i = .int .i64 k ∧ J (zs.take k) wr ∧ Boxed wr Bs 39 (.slice A zs.length cap) ∧ Boxed wr G 3 (.int .i64 k) ∧ (∀ j, j < zs.length → ∃ ad, A = some ad ∧ ad.block < n1 ∧ ad.block ≠ G ∧ wr.cell? (ad.add j) = some (.int .i64 (zs[j]?.getD 0))))
    (fun i _ => zs.length - (intOf i).toNat)
  case atStart => exact ⟨0, Nat.zero_le _, rfl, h0, hB, hG, hc⟩
  case round =>
    obtain ⟨k, hk, rfl, hJs, hB, hG, hc⟩ := hrel
    have hBc := hB.cell
    have hGc := hG.cell
    have hGf := hG.frozen
    by_cases hlt : k < zs.length
    · have hB2 := Boxed.apart (u := .int .i64 (k + 1)) hB hne
      have hG2 := hG.set (.int .i64 (k + 1))
      have hJ2 := hJ _ _ (.int .i64 (k + 1)) hJs
      obtain ⟨ad, rfl, ha1, ha2, hcell⟩ := hc k hlt
      have hcell2 : (wr.setCell ⟨G, 0, none⟩ (.int .i64 (k + 1))).cell? (ad.add k) = some (.int .i64 (zs[k]?.getD 0)) := by
        rw [World.cell?_setCell_other]
        · exact hcell
        · intro e
          refine ha2 ?_
          have := congrArg Addr.block e
          unfold Addr.add at this
          split at this <;> exact this.symm
      obtain ⟨fn, tmps, assign, body, hy, hR⟩ := hY (zs.take k) zs[k] _ hJ2 (by rw [List.length_take]; omega)
      have hBc2 := hB2.cell
      have hc2 : ∀ j, j < zs.length → ∃ ad', some ad = some ad' ∧ ad'.block < n1 ∧ ad'.block ≠ G ∧ (wr.setCell ⟨G, 0, none⟩ (.int .i64 (k + 1))).cell? (ad'.add j) = some (.int .i64 (zs[j]?.getD 0)) := by
        intro j hj
        obtain ⟨ad', e1, e2, e3, e4⟩ := hc j hj
        refine ⟨ad', e1, e2, e3, ?_⟩
        rw [World.cell?_setCell_other]
        · exact e4
        · intro e
          refine e3 ?_
          have := congrArg Addr.block e
          unfold Addr.add at this
          split at this <;> exact this.symm
      gi_wp2
      refine hR.mono ?_
      rintro e W3 ⟨rfl, hJ3, hk3⟩
      have htake : zs.take k ++ [zs[k]] = zs.take (k + 1) := by rw [List.take_append_getElem hlt]
      gi_wp2
      go_roundw
      case rel =>
        refine ⟨k + 1, by omega, by simp, by rw [← htake]; exact hJ3, Boxed.under hB2 hk3 hBn, Boxed.under hG2 hk3 hGn, fun j hj => ?_⟩
        obtain ⟨ad', e1, e2, e3, e4⟩ := hc2 j hj
        refine ⟨ad', e1, e2, e3, ?_⟩
        rw [hk3.cell (p := ad'.add j) (by unfold Addr.add; split <;> exact e2)]
        exact e4
      case measure => simp [intOf]; omega
    · obtain rfl : k = zs.length := by omega
      gi_wp2
      go_end0
      refine ⟨⟨_, rfl⟩, ?_, hB, hG⟩
      rw [List.take_length] at hJs
      exact hJs
end Go.Proofs.YtfpfdeechhaheaaDoor.Least
