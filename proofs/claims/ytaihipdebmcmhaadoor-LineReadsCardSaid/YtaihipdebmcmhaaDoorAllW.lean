/- line.All over line.Lines, and the law's gathering function: walked. -/
import Derived.Test.YtaihipdebmcmhaaDoorRefR
namespace Go.Proofs.YtaihipdebmcmhaaDoor.Lines
open Go.RowKit Go.Shelf Go.Proofs.YtaihipdebmcmhaaDoorW.PrintWords Go.Proofs.YtaihipdebmcmhaaDoorW.PrintLast
attribute [local go_sem] Oper.semAt_some
set_option linter.unusedVariables false
/-- below n0 all lies as it lay, but for block A -/
def KeptBut (n0 A : Nat) (W W' : World) : Prop := ∀ k, k < n0 → k ≠ A → W'.heap[k]? = W.heap[k]?
theorem KeptBut.trans {n0 A : Nat} {W W' W2 : World} (h : KeptBut n0 A W W') (h2 : KeptBut n0 A W' W2) : KeptBut n0 A W W2 := fun k hk hA => (h2 k hk hA).trans (h k hk hA)
theorem KeptBut.refl (n0 A : Nat) (W : World) : KeptBut n0 A W W := fun _ _ _ => rfl
theorem KeptBut.box {n0 A B : Nat} {W W' : World} {t : TypeId} {v : Value} (h : KeptBut n0 A W W') (hb : Boxed W B t v) (hB : B < n0) (hne : B ≠ A) : Boxed W' B t v := (h B hB hne).trans hb
theorem kept_append {X w2 : World} {n0 A : Nat} {v v' : Value} {k : Nat} {xs : List Value} {tmp : Obj} (hn : n0 ≤ X.heap.size)
    (hrow : X.ownsRow n0 31 4 v k xs) (hgrow : (X.alloc tmp).grownBy w2 v.ownBlock) : KeptBut n0 A X (w2.setCell ⟨A, 0, none⟩ v') := by
  intro j hj hA
  have h1 : j < X.heap.size := Nat.lt_of_lt_of_le hj hn
  have h2 : (X.alloc tmp).heap[j]? = X.heap[j]? := (World.grownBy_alloc X tmp none).block j h1 (by simp)
  have h3 : j < (X.alloc tmp).heap.size := Nat.lt_of_lt_of_le h1 (World.grownBy_alloc X tmp none).size
  have hne : some j ≠ v.ownBlock := by
    intro e
    have := (hrow.lt j e.symm).1
    omega
  have h4 : w2.heap[j]? = (X.alloc tmp).heap[j]? := hgrow.block j h3 hne
  exact ((grownBy_setCell' w2 A v').block j (Nat.lt_of_lt_of_le h3 hgrow.size) (fun e => hA (Option.some.inj e))).trans (h4.trans h2)
theorem kept_alloc {W : World} {n0 A : Nat} (hn : n0 ≤ W.heap.size) (o : Obj) : KeptBut n0 A W (W.alloc o) := fun k hk _ => (World.grownBy_alloc W o none).block k (Nat.lt_of_lt_of_le hk hn) (by simp)
theorem got_row {w2 : World} {n0 A g c : Nat} {u : Value} {pre : List S31} {x : S31} (hown : w2.ownsRow n0 31 4 (.slice (some ⟨g, 0, none⟩) (pre.length + 1) c) (pre.length + 1) (pre.flatMap cells31 ++ cells31 x)) (hv : Boxed w2 A 26 u) :
    (w2.setCell ⟨A, 0, none⟩ (.slice (some ⟨g, 0, none⟩) (pre.length + 1) c)).ownsRow n0 31 4 (.slice (some ⟨g, 0, none⟩) (pre.length + 1) c) (pre ++ [x]).length ((pre ++ [x]).flatMap cells31) := by
  have hmk : (pre ++ [x]).length = pre.length + 1 := by simp
  have hfm : (pre ++ [x]).flatMap cells31 = pre.flatMap cells31 ++ cells31 x := by simp
  rw [hmk, hfm]
  exact hown.kept (grownBy_setCell' w2 A _) (.inr (hv.not_row (by decide) hown).symm)
set_option maxRecDepth 100000 in
set_option maxHeartbeats 4000000 in
theorem got_calls (n0 A S M B0 : Nat) (stop : Int) (am : Option Addr) (ml mc : Nat) (x : S31) (pre : List S31) (v : Value) (W : World)
    (hv : Boxed W A 26 v) (hrow : W.ownsRow n0 31 4 v pre.length (pre.flatMap cells31)) (hS : Boxed W S 3 (.int .i64 stop)) (hM : Boxed W M 26 (.slice am ml mc))
    (hA : A < n0) (hSn : S < n0) (hMn : M < n0) (hSA : S ≠ A) (hMA : M ≠ A) (hB : B0 ≤ A) (hn : n0 ≤ W.heap.size) (hlen : pre.length + 1 ≤ 4001) :
    Calls Tryd.prog 18 #[.agg #[.int .i64 x.f0, .string x.f1, .string x.f2, .int .i64 x.f3], .pointer (some ⟨A, 0, none⟩), .pointer (some ⟨S, 0, none⟩), .pointer (some ⟨M, 0, none⟩)] W fun e W' =>
      e = .returned (.bool (decide (((pre.length + 1 : Nat) : Int) ≠ stop) && decide (pre.length + 1 ≤ ml))) ∧ (∃ v', Boxed W' A 26 v' ∧ W'.ownsRow n0 31 4 v' (pre ++ [x]).length ((pre ++ [x]).flatMap cells31)) ∧ KeptBut n0 A W W' ∧ Below B0 W W' := by
  obtain ⟨i0, hi, hz0, hz1, hz2⟩ := info_parts info31
  have hlen1 : pre.length + 1 ≤ maxLen := Nat.le_trans hlen (by decide)
  have hlen2 : (pre.length + 1) * 48 ≤ 140737488355328 := Nat.le_trans (Nat.mul_le_mul_right 48 hlen) (by decide)
  obtain ⟨A1, cp, rfl⟩ := own_slice hrow
  have g5 := hv.alloc (.cells #[.int .i64 x.f0, .string x.f1, .string x.f2, .int .i64 x.f3] 31)
  have hr5 := World.ownsRow.alloc hrow (.cells #[.int .i64 x.f0, .string x.f1, .string x.f2, .int .i64 x.f3] 31)
  have gS := hS.alloc (.cells #[.int .i64 x.f0, .string x.f1, .string x.f2, .int .i64 x.f3] 31)
  have gM := hM.alloc (.cells #[.int .i64 x.f0, .string x.f1, .string x.f2, .int .i64 x.f3] 31)
  have f5 := g5.frozen
  have c5 := g5.cell
  have hX1 : n0 ≤ (W.alloc (.cells #[.int .i64 x.f0, .string x.f1, .string x.f2, .int .i64 x.f3] 31)).heap.size := Nat.le_trans hn (World.grownBy_alloc _ _ none).size
  have hB1 : B0 ≤ n0 := Nat.le_trans hB (Nat.le_of_lt hA)
  have hrB : (W.alloc (.cells #[.int .i64 x.f0, .string x.f1, .string x.f2, .int .i64 x.f3] 31)).ownsRow B0 31 4 (.slice A1 pre.length cp) pre.length (pre.flatMap cells31) := own_weaken hr5 hB1
  refine (callsIn_wide (n := 1)).1 ?_
  refine callsIn_of_wp Tryd.func18 rfl trivial ?_ rfl
  simp only [Tryd.ntmps18, List.size_toArray, List.length_cons, List.length_nil, Nat.reduceAdd, Nat.reduceSub, Array.replicate_succ, Array.replicate_zero, List.push_toArray, List.append_toArray, List.nil_append, List.cons_append]
  gi_wp2_with (gi_at_builtin; refine wpListIn_append_own _ rfl _ _ 26 rfl n0 31 i0 _ 4 48 Tryd.underlying26 hi hz0 hz1 hz2 rfl (by decide) _ _ _ rfl (World.ownsRow.alloc hr5 _) ⟨W.heap.size + 1, 0, none⟩ 1 1 [.int .i64 x.f0, .string x.f1, .string x.f2, .int .i64 x.f3] rfl rfl (cell_four_new _ _ _ _ _ _ (by simp)) (by simp [Value.oneCell']) hlen1 hlen2 (Nat.le_trans hX1 (World.grownBy_alloc _ _ none).size) ?_; intro v' w2 hown' hgrow hnil2; obtain ⟨g', cap', rfl⟩ := ownsRow_succ hown'; obtain ⟨hv1, hv2, hr2, hk2, hbb2⟩ := g5.appended (by decide) hrB (Nat.le_trans hB1 hX1) hB (own_weaken hown' hB1) hgrow; have hc1 := hv1.cell; have hf1 := hv1.frozen; have hk3 := kept_append (A := A) (v' := .slice (some ⟨g', 0, none⟩) (pre.length + 1) cap') hX1 hr5 hgrow; have hS3 := (hk3.box gS hSn hSA).cell; have hM3 := (hk3.box gM hMn hMA).cell; have hA3 := hv2.cell)
  · have h1 : (pre.length : Int) + 1 = stop := by assumption
    have e0 : decide (((pre.length + 1 : Nat) : Int) ≠ stop) = false := decide_eq_false (fun h => h h1)
    rw [e0, Bool.false_and]
    go_ret
    exact ⟨rfl, ⟨_, hv2, got_row hown' hv1⟩, (kept_alloc hn _).trans hk3, ((Below.refl _ W).alloc (Nat.le_trans hB1 hn) _).trans hbb2⟩
  · have e1 : (((pre.length : Int) + 1) != stop) = decide (((pre.length + 1 : Nat) : Int) ≠ stop) := by
      rw [Bool.eq_iff_iff, bne_iff_ne, decide_eq_true_iff]
      exact Iff.rfl
    have e2 : decide ((pre.length : Int) + 1 ≤ (ml : Int)) = decide (pre.length + 1 ≤ ml) := decide_eq_decide.2 (by omega)
    rw [← e1, ← e2]
    go_ret
    exact ⟨rfl, ⟨_, hv2, got_row hown' hv1⟩, (kept_alloc hn _).trans hk3, ((Below.refl _ W).alloc (Nat.le_trans hB1 hn) _).trans hbb2⟩
end Go.Proofs.YtaihipdebmcmhaaDoor.Lines
