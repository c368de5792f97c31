/- Out of the program's functions that the law reaches, part 1: what each computes, and that the machine computes it. -/
import Derived.Test.YtaihipdebmcmhaaDoorSplitsF0
namespace Go.Proofs.YtaihipdebmcmhaaDoor.Splits
open Go.RowKit Go.Proofs.YtaihipdebmcmhaaDoorW.PrintWords Go.Proofs.YtaihipdebmcmhaaDoorW.PrintLast
set_option linter.unusedVariables false
set_option linter.unusedSimpArgs false
/-! ### reveilleref5_Split: function 19 -/
mutual
def reveilleref5_Split.l0 : Nat → ByteArray → List ByteArray → Int → Option (List ByteArray × Int)
  | 0, _, _, _ => none
  | k + 1, x0, x4, x5 => reveilleref5_Split.l1 k x0 x4 x5
def reveilleref5_Split.j2 : Nat → ByteArray → List ByteArray → Int → Option (List ByteArray × Int)
  | 0, _, _, _ => none
  | k + 1, x0, x4, x5 => if x5 = (x0.size : Int) then (some (x4, 0)) else (if 0 ≤ x5 then (if x5 < (x0.size : Int) then (if (bt x0 x5) = 34 then (reveilleref5_Split.j3 k x0 x4 x5 false) else (reveilleref5_Split.j3 k x0 x4 x5 ((bt x0 x5) != 39))) else (none)) else (none))
def reveilleref5_Split.j3 : Nat → ByteArray → List ByteArray → Int → Bool → Option (List ByteArray × Int)
  | 0, _, _, _, _ => none
  | k + 1, x0, x4, x5, x35 => if x35 = true then (reveilleref5_Split.l2 k x0 x4 x5 x5) else (if 0 ≤ x5 then (if x5 < (x0.size : Int) then (reveilleref5_Split.l3 k x0 x4 (wrap64 (x5 + 1)) (bt x0 x5) ([] : List Int)) else (none)) else (none))
def reveilleref5_Split.l2 : Nat → ByteArray → List ByteArray → Int → Int → Option (List ByteArray × Int)
  | 0, _, _, _, _ => none
  | k + 1, x0, x4, x5, x6 => if x5 < (x0.size : Int) then (if 0 ≤ x5 then ((reveilleref5_Blank.f (bt x0 x5)).bind fun t155 => (if t155 = true then (if 0 ≤ x6 then (if x6 ≤ x5 then (if x5 ≤ (x0.size : Int) then (if x4.length < 8796093022208 then (reveilleref5_Split.l0 k x0 (x4 ++ [x0.extract (x6 : Int).toNat (x5 : Int).toNat]) x5) else (none)) else (none)) else (none)) else (none)) else (reveilleref5_Split.l2 k x0 x4 (wrap64 (x5 + 1)) x6))) else (none)) else (if 0 ≤ x6 then (if x6 ≤ x5 then (if x5 ≤ (x0.size : Int) then (if x4.length < 8796093022208 then (reveilleref5_Split.l0 k x0 (x4 ++ [x0.extract (x6 : Int).toNat (x5 : Int).toNat]) x5) else (none)) else (none)) else (none)) else (none))
def reveilleref5_Split.l3 : Nat → ByteArray → List ByteArray → Int → Int → List Int → Option (List ByteArray × Int)
  | 0, _, _, _, _, _ => none
  | k + 1, x0, x4, x5, x7, x8 => if x5 < (x0.size : Int) then (if 0 ≤ x5 then (reveilleref5_Split.j6 k x0 x4 x5 x7 x8 ((bt x0 x5) != x7)) else (none)) else (reveilleref5_Split.j6 k x0 x4 x5 x7 x8 false)
def reveilleref5_Split.j6 : Nat → ByteArray → List ByteArray → Int → Int → List Int → Bool → Option (List ByteArray × Int)
  | 0, _, _, _, _, _, _ => none
  | k + 1, x0, x4, x5, x7, x8, x72 => if x72 = true then (if 0 ≤ x5 then (if x5 < (x0.size : Int) then (if (bt x0 x5) = 92 then (if (wrap64 (x5 + 1)) = (x0.size : Int) then (reveilleref5_Split.j7 k x0 x4 (wrap64 (x5 + 1)) x7 x8 true) else (if 0 ≤ (wrap64 (x5 + 1)) then (if (wrap64 (x5 + 1)) < (x0.size : Int) then (if (bt x0 (wrap64 (x5 + 1))) = 34 then (reveilleref5_Split.j7 k x0 x4 (wrap64 (x5 + 1)) x7 x8 false) else (if (bt x0 (wrap64 (x5 + 1))) = 39 then (reveilleref5_Split.j7 k x0 x4 (wrap64 (x5 + 1)) x7 x8 false) else (if (bt x0 (wrap64 (x5 + 1))) = 92 then (reveilleref5_Split.j7 k x0 x4 (wrap64 (x5 + 1)) x7 x8 false) else (reveilleref5_Split.j7 k x0 x4 (wrap64 (x5 + 1)) x7 x8 ((bt x0 (wrap64 (x5 + 1))) != 110))))) else (none)) else (none))) else (if x8.length < 140737488355328 then (reveilleref5_Split.l3 k x0 x4 (wrap64 (x5 + 1)) x7 (x8 ++ [bt x0 x5])) else (none))) else (none)) else (none)) else (if x5 = (x0.size : Int) then (some (([] : List ByteArray), 50)) else (if (wrap64 (x5 + 1)) < (x0.size : Int) then (if 0 ≤ (wrap64 (x5 + 1)) then ((reveilleref5_Blank.f (bt x0 (wrap64 (x5 + 1)))).bind fun t171 => (if t171 = true then (if x4.length < 8796093022208 then (reveilleref5_Split.l0 k x0 (x4 ++ [strOfNums x8]) (wrap64 (x5 + 1))) else (none)) else (some (([] : List ByteArray), 50)))) else (none)) else (if x4.length < 8796093022208 then (reveilleref5_Split.l0 k x0 (x4 ++ [strOfNums x8]) (wrap64 (x5 + 1))) else (none))))
def reveilleref5_Split.j7 : Nat → ByteArray → List ByteArray → Int → Int → List Int → Bool → Option (List ByteArray × Int)
  | 0, _, _, _, _, _, _ => none
  | k + 1, x0, x4, x5, x7, x8, x106 => if x106 = true then (some (([] : List ByteArray), 50)) else (if 0 ≤ x5 then (if x5 < (x0.size : Int) then (if (bt x0 x5) = 110 then (if x8.length < 140737488355328 then (reveilleref5_Split.l3 k x0 x4 (wrap64 (x5 + 1)) x7 (x8 ++ [10])) else (none)) else (if x8.length < 140737488355328 then (reveilleref5_Split.l3 k x0 x4 (wrap64 (x5 + 1)) x7 (x8 ++ [bt x0 x5])) else (none))) else (none)) else (none))
def reveilleref5_Split.l1 : Nat → ByteArray → List ByteArray → Int → Option (List ByteArray × Int)
  | 0, _, _, _ => none
  | k + 1, x0, x4, x5 => if x5 < (x0.size : Int) then (if 0 ≤ x5 then ((reveilleref5_Blank.f (bt x0 x5)).bind fun t154 => (if t154 = true then (reveilleref5_Split.l1 k x0 x4 (wrap64 (x5 + 1))) else (reveilleref5_Split.j2 k x0 x4 x5))) else (none)) else (reveilleref5_Split.j2 k x0 x4 x5)
end
def reveilleref5_Split.f (k : Nat) (a0 : ByteArray) : Option (List ByteArray × Int) := reveilleref5_Split.l0 k a0 ([] : List ByteArray) 0
theorem reveilleref5_Split.mono_l : ∀ k, (∀ y0 y1 y2, LeO (reveilleref5_Split.l0 k y0 y1 y2) (reveilleref5_Split.l0 (k + 1) y0 y1 y2)) ∧ (∀ y0 y1 y2, LeO (reveilleref5_Split.j2 k y0 y1 y2) (reveilleref5_Split.j2 (k + 1) y0 y1 y2)) ∧ (∀ y0 y1 y2 y3, LeO (reveilleref5_Split.j3 k y0 y1 y2 y3) (reveilleref5_Split.j3 (k + 1) y0 y1 y2 y3)) ∧ (∀ y0 y1 y2 y3, LeO (reveilleref5_Split.l2 k y0 y1 y2 y3) (reveilleref5_Split.l2 (k + 1) y0 y1 y2 y3)) ∧ (∀ y0 y1 y2 y3 y4, LeO (reveilleref5_Split.l3 k y0 y1 y2 y3 y4) (reveilleref5_Split.l3 (k + 1) y0 y1 y2 y3 y4)) ∧ (∀ y0 y1 y2 y3 y4 y5, LeO (reveilleref5_Split.j6 k y0 y1 y2 y3 y4 y5) (reveilleref5_Split.j6 (k + 1) y0 y1 y2 y3 y4 y5)) ∧ (∀ y0 y1 y2 y3 y4 y5, LeO (reveilleref5_Split.j7 k y0 y1 y2 y3 y4 y5) (reveilleref5_Split.j7 (k + 1) y0 y1 y2 y3 y4 y5)) ∧ (∀ y0 y1 y2, LeO (reveilleref5_Split.l1 k y0 y1 y2) (reveilleref5_Split.l1 (k + 1) y0 y1 y2))
  | 0 => ⟨fun _ _ _ r h => by simp [reveilleref5_Split.l0] at h, fun _ _ _ r h => by simp [reveilleref5_Split.j2] at h, fun _ _ _ _ r h => by simp [reveilleref5_Split.j3] at h, fun _ _ _ _ r h => by simp [reveilleref5_Split.l2] at h, fun _ _ _ _ _ r h => by simp [reveilleref5_Split.l3] at h, fun _ _ _ _ _ _ r h => by simp [reveilleref5_Split.j6] at h, fun _ _ _ _ _ _ r h => by simp [reveilleref5_Split.j7] at h, fun _ _ _ r h => by simp [reveilleref5_Split.l1] at h⟩
  | k + 1 => by
    obtain ⟨ih0, ih1, ih2, ih3, ih4, ih5, ih6, ih7⟩ := reveilleref5_Split.mono_l k
    refine ⟨?_, ?_, ?_, ?_, ?_, ?_, ?_, ?_⟩
    · intro y0 y1 y2
      unfold reveilleref5_Split.l0
      repeat' first
      | (with_reducible exact ih0 _ _ _)
      | (with_reducible exact ih1 _ _ _)
      | (with_reducible exact ih2 _ _ _ _)
      | (with_reducible exact ih3 _ _ _ _)
      | (with_reducible exact ih4 _ _ _ _ _)
      | (with_reducible exact ih5 _ _ _ _ _ _)
      | (with_reducible exact ih6 _ _ _ _ _ _)
      | (with_reducible exact ih7 _ _ _)
      | (with_reducible exact LeO.refl _)
      | (with_reducible exact LeO.none _)
      | (with_reducible refine LeO.ite ?_ ?_)
      | (with_reducible refine LeO.bind ?_ (fun _ => ?_))
      | exact ih0 _ _ _
      | exact ih1 _ _ _
      | exact ih2 _ _ _ _
      | exact ih3 _ _ _ _
      | exact ih4 _ _ _ _ _
      | exact ih5 _ _ _ _ _ _
      | exact ih6 _ _ _ _ _ _
      | exact ih7 _ _ _
      | exact LeO.none _
      | refine LeO.ite ?_ ?_
      | refine LeO.bind ?_ (fun _ => ?_)
    · intro y0 y1 y2
      unfold reveilleref5_Split.j2
      repeat' first
      | (with_reducible exact ih0 _ _ _)
      | (with_reducible exact ih1 _ _ _)
      | (with_reducible exact ih2 _ _ _ _)
      | (with_reducible exact ih3 _ _ _ _)
      | (with_reducible exact ih4 _ _ _ _ _)
      | (with_reducible exact ih5 _ _ _ _ _ _)
      | (with_reducible exact ih6 _ _ _ _ _ _)
      | (with_reducible exact ih7 _ _ _)
      | (with_reducible exact LeO.refl _)
      | (with_reducible exact LeO.none _)
      | (with_reducible refine LeO.ite ?_ ?_)
      | (with_reducible refine LeO.bind ?_ (fun _ => ?_))
      | exact ih0 _ _ _
      | exact ih1 _ _ _
      | exact ih2 _ _ _ _
      | exact ih3 _ _ _ _
      | exact ih4 _ _ _ _ _
      | exact ih5 _ _ _ _ _ _
      | exact ih6 _ _ _ _ _ _
      | exact ih7 _ _ _
      | exact LeO.none _
      | refine LeO.ite ?_ ?_
      | refine LeO.bind ?_ (fun _ => ?_)
    · intro y0 y1 y2 y3
      unfold reveilleref5_Split.j3
      repeat' first
      | (with_reducible exact ih0 _ _ _)
      | (with_reducible exact ih1 _ _ _)
      | (with_reducible exact ih2 _ _ _ _)
      | (with_reducible exact ih3 _ _ _ _)
      | (with_reducible exact ih4 _ _ _ _ _)
      | (with_reducible exact ih5 _ _ _ _ _ _)
      | (with_reducible exact ih6 _ _ _ _ _ _)
      | (with_reducible exact ih7 _ _ _)
      | (with_reducible exact LeO.refl _)
      | (with_reducible exact LeO.none _)
      | (with_reducible refine LeO.ite ?_ ?_)
      | (with_reducible refine LeO.bind ?_ (fun _ => ?_))
      | exact ih0 _ _ _
      | exact ih1 _ _ _
      | exact ih2 _ _ _ _
      | exact ih3 _ _ _ _
      | exact ih4 _ _ _ _ _
      | exact ih5 _ _ _ _ _ _
      | exact ih6 _ _ _ _ _ _
      | exact ih7 _ _ _
      | exact LeO.none _
      | refine LeO.ite ?_ ?_
      | refine LeO.bind ?_ (fun _ => ?_)
    · intro y0 y1 y2 y3
      unfold reveilleref5_Split.l2
      repeat' first
      | (with_reducible exact ih0 _ _ _)
      | (with_reducible exact ih1 _ _ _)
      | (with_reducible exact ih2 _ _ _ _)
      | (with_reducible exact ih3 _ _ _ _)
      | (with_reducible exact ih4 _ _ _ _ _)
      | (with_reducible exact ih5 _ _ _ _ _ _)
      | (with_reducible exact ih6 _ _ _ _ _ _)
      | (with_reducible exact ih7 _ _ _)
      | (with_reducible exact LeO.refl _)
      | (with_reducible exact LeO.none _)
      | (with_reducible refine LeO.ite ?_ ?_)
      | (with_reducible refine LeO.bind ?_ (fun _ => ?_))
      | exact ih0 _ _ _
      | exact ih1 _ _ _
      | exact ih2 _ _ _ _
      | exact ih3 _ _ _ _
      | exact ih4 _ _ _ _ _
      | exact ih5 _ _ _ _ _ _
      | exact ih6 _ _ _ _ _ _
      | exact ih7 _ _ _
      | exact LeO.none _
      | refine LeO.ite ?_ ?_
      | refine LeO.bind ?_ (fun _ => ?_)
    · intro y0 y1 y2 y3 y4
      unfold reveilleref5_Split.l3
      repeat' first
      | (with_reducible exact ih0 _ _ _)
      | (with_reducible exact ih1 _ _ _)
      | (with_reducible exact ih2 _ _ _ _)
      | (with_reducible exact ih3 _ _ _ _)
      | (with_reducible exact ih4 _ _ _ _ _)
      | (with_reducible exact ih5 _ _ _ _ _ _)
      | (with_reducible exact ih6 _ _ _ _ _ _)
      | (with_reducible exact ih7 _ _ _)
      | (with_reducible exact LeO.refl _)
      | (with_reducible exact LeO.none _)
      | (with_reducible refine LeO.ite ?_ ?_)
      | (with_reducible refine LeO.bind ?_ (fun _ => ?_))
      | exact ih0 _ _ _
      | exact ih1 _ _ _
      | exact ih2 _ _ _ _
      | exact ih3 _ _ _ _
      | exact ih4 _ _ _ _ _
      | exact ih5 _ _ _ _ _ _
      | exact ih6 _ _ _ _ _ _
      | exact ih7 _ _ _
      | exact LeO.none _
      | refine LeO.ite ?_ ?_
      | refine LeO.bind ?_ (fun _ => ?_)
    · intro y0 y1 y2 y3 y4 y5
      unfold reveilleref5_Split.j6
      repeat' first
      | (with_reducible exact ih0 _ _ _)
      | (with_reducible exact ih1 _ _ _)
      | (with_reducible exact ih2 _ _ _ _)
      | (with_reducible exact ih3 _ _ _ _)
      | (with_reducible exact ih4 _ _ _ _ _)
      | (with_reducible exact ih5 _ _ _ _ _ _)
      | (with_reducible exact ih6 _ _ _ _ _ _)
      | (with_reducible exact ih7 _ _ _)
      | (with_reducible exact LeO.refl _)
      | (with_reducible exact LeO.none _)
      | (with_reducible refine LeO.ite ?_ ?_)
      | (with_reducible refine LeO.bind ?_ (fun _ => ?_))
      | exact ih0 _ _ _
      | exact ih1 _ _ _
      | exact ih2 _ _ _ _
      | exact ih3 _ _ _ _
      | exact ih4 _ _ _ _ _
      | exact ih5 _ _ _ _ _ _
      | exact ih6 _ _ _ _ _ _
      | exact ih7 _ _ _
      | exact LeO.none _
      | refine LeO.ite ?_ ?_
      | refine LeO.bind ?_ (fun _ => ?_)
    · intro y0 y1 y2 y3 y4 y5
      unfold reveilleref5_Split.j7
      repeat' first
      | (with_reducible exact ih0 _ _ _)
      | (with_reducible exact ih1 _ _ _)
      | (with_reducible exact ih2 _ _ _ _)
      | (with_reducible exact ih3 _ _ _ _)
      | (with_reducible exact ih4 _ _ _ _ _)
      | (with_reducible exact ih5 _ _ _ _ _ _)
      | (with_reducible exact ih6 _ _ _ _ _ _)
      | (with_reducible exact ih7 _ _ _)
      | (with_reducible exact LeO.refl _)
      | (with_reducible exact LeO.none _)
      | (with_reducible refine LeO.ite ?_ ?_)
      | (with_reducible refine LeO.bind ?_ (fun _ => ?_))
      | exact ih0 _ _ _
      | exact ih1 _ _ _
      | exact ih2 _ _ _ _
      | exact ih3 _ _ _ _
      | exact ih4 _ _ _ _ _
      | exact ih5 _ _ _ _ _ _
      | exact ih6 _ _ _ _ _ _
      | exact ih7 _ _ _
      | exact LeO.none _
      | refine LeO.ite ?_ ?_
      | refine LeO.bind ?_ (fun _ => ?_)
    · intro y0 y1 y2
      unfold reveilleref5_Split.l1
      repeat' first
      | (with_reducible exact ih0 _ _ _)
      | (with_reducible exact ih1 _ _ _)
      | (with_reducible exact ih2 _ _ _ _)
      | (with_reducible exact ih3 _ _ _ _)
      | (with_reducible exact ih4 _ _ _ _ _)
      | (with_reducible exact ih5 _ _ _ _ _ _)
      | (with_reducible exact ih6 _ _ _ _ _ _)
      | (with_reducible exact ih7 _ _ _)
      | (with_reducible exact LeO.refl _)
      | (with_reducible exact LeO.none _)
      | (with_reducible refine LeO.ite ?_ ?_)
      | (with_reducible refine LeO.bind ?_ (fun _ => ?_))
      | exact ih0 _ _ _
      | exact ih1 _ _ _
      | exact ih2 _ _ _ _
      | exact ih3 _ _ _ _
      | exact ih4 _ _ _ _ _
      | exact ih5 _ _ _ _ _ _
      | exact ih6 _ _ _ _ _ _
      | exact ih7 _ _ _
      | exact LeO.none _
      | refine LeO.ite ?_ ?_
      | refine LeO.bind ?_ (fun _ => ?_)
theorem reveilleref5_Split.mono : ∀ a0 k, LeO (reveilleref5_Split.f k a0) (reveilleref5_Split.f (k + 1) a0) := by
  intro a0 k
  obtain ⟨ih0, ih1, ih2, ih3, ih4, ih5, ih6, ih7⟩ := reveilleref5_Split.mono_l k
  unfold reveilleref5_Split.f
  repeat' first
      | (with_reducible exact ih0 _ _ _)
      | (with_reducible exact ih1 _ _ _)
      | (with_reducible exact ih2 _ _ _ _)
      | (with_reducible exact ih3 _ _ _ _)
      | (with_reducible exact ih4 _ _ _ _ _)
      | (with_reducible exact ih5 _ _ _ _ _ _)
      | (with_reducible exact ih6 _ _ _ _ _ _)
      | (with_reducible exact ih7 _ _ _)
      | (with_reducible exact LeO.refl _)
      | (with_reducible exact LeO.none _)
      | (with_reducible refine LeO.ite ?_ ?_)
      | (with_reducible refine LeO.bind ?_ (fun _ => ?_))
      | exact ih0 _ _ _
      | exact ih1 _ _ _
      | exact ih2 _ _ _ _
      | exact ih3 _ _ _ _
      | exact ih4 _ _ _ _ _
      | exact ih5 _ _ _ _ _ _
      | exact ih6 _ _ _ _ _ _
      | exact ih7 _ _ _
      | exact LeO.none _
      | refine LeO.ite ?_ ?_
      | refine LeO.bind ?_ (fun _ => ?_)
set_option maxHeartbeats 8000000 in
set_option maxRecDepth 100000 in
theorem reveilleref5_Split.calls (k : Nat) (a0 : ByteArray) (r1 : List ByteArray) (r2 : Int) (w : World) (h : reveilleref5_Split.f k a0 = some (r1, r2)) :
    Calls Tryd.prog 19 #[.string a0] w fun e w' => ∃ v0_ : Value, e = .returned (.tuple #[v0_, .int .i64 r2]) ∧ Kd.R Kd.string 9 w' w.heap.size (fun _ => True) v0_ r1 ∧ Below w.heap.size w w' := by
  have HB := Aside0.mk (Below.refl w.heap.size w)
  have H : (reveilleref5_Split.l0 k a0 ([] : List ByteArray) 0) = some (r1, r2) := h
  clear h
  have H' := Aside0.mk H
  clear H
  go_enter Tryd.func19, Tryd.ntmps19
  go_wp2
  go_loopg [4, 5] k (fun kq v4 v5 w' => ∃ (x4_1 : List ByteArray) (x5_1 : Int), v5 = .int .i64 x5_1 ∧ Aside0 (reveilleref5_Split.l0 kq a0 x4_1 x5_1 = some (r1, r2)) ∧ Aside0 (kq ≤ k) ∧ Aside0 (Kd.R Kd.string 9 w' w.heap.size (fun _ => True) v4 x4_1) ∧ Aside0 (Below w.heap.size w w'))
  case atStart => exact ⟨(([] : List ByteArray)), (0), (by first | rfl | (simp; done) | (simp [*]; done)), H', ⟨Nat.le_refl _⟩, ⟨by first | exact Kd.R_nil _ _ _ _ _ | exact Kd.N_nil _ _ _ _ _ | exact Kd.V_nil _ _ _ _ _ | exact Kd.Q_nil _ _ _ _ _ | exact Kd.S_nil _ _ _ _ _⟩, ⟨by repeat (first | (with_reducible first | exact HB.out | apply below_alloc | apply pw_below_drewN | apply below_drew1) | exact HB.out)⟩⟩
  case round =>
    clear H'
    try clear c1
    obtain ⟨x4_1, x5_1, rfl, HA, HK1, HO_4, HB⟩ := hrel
    cases gk with
    | zero => exact absurd HA.out (by simp [reveilleref5_Split.l0])
    | succ k1 =>
      have H := HA.out
      clear HA
      simp only [reveilleref5_Split.l0] at H
      have HC2 := Aside0.mk H
      clear H
      go_upto_block 2 with (fail)
      go_cut [5] (fun v5 wc => ∃ (kq : Nat) (x5_1 : Int), v5 = .int .i64 x5_1 ∧ Aside0 (reveilleref5_Split.j2 kq a0 x4_1 x5_1 = some (r1, r2)) ∧ Aside0 (kq ≤ k1) ∧ Aside0 (Kd.R Kd.string 9 wc w.heap.size (fun _ => True) u4 x4_1) ∧ Aside0 (Below w.heap.size w wc))
      case first =>
        have H := HC2.out
        clear HC2
        have H' := Aside0.mk H
        clear H
        go_wp2
        go_loopg [5] k1 (fun kq v5 w' => ∃ (x5_2 : Int), v5 = .int .i64 x5_2 ∧ Aside0 (reveilleref5_Split.l1 kq a0 x4_1 x5_2 = some (r1, r2)) ∧ Aside0 (kq ≤ k1) ∧ Aside0 (Kd.R Kd.string 9 w' w.heap.size (fun _ => True) u4 x4_1) ∧ Aside0 (Below w.heap.size w w'))
        case atStart => exact ⟨(x5_1), (by first | rfl | (simp; done) | (simp [*]; done)), H', ⟨Nat.le_refl _⟩, ⟨by (with_reducible repeat (first | apply Kd.R_alloc | apply Kd.R_drewN | apply Kd.R_drew)); exact HO_4.out⟩, ⟨by repeat (first | (with_reducible first | exact HB.out | apply below_alloc | apply pw_below_drewN | apply below_drew1) | exact HB.out)⟩⟩
        case round =>
          clear H'
          try clear c1
          try clear p2
          obtain ⟨x5_2, rfl, HA, HK2, HO_4, HB⟩ := hrel
          cases gk with
          | zero => exact absurd HA.out (by simp [reveilleref5_Split.l1])
          | succ k2 =>
            have H := HA.out
            clear HA
            simp only [reveilleref5_Split.l1] at H
            by_cases c3 : x5_2 < (a0.size : Int)
            · rw [if_pos c3] at H
              have c3b0 : decide (x5_2 < (a0.size : Int)) = true := decide_eq_true c3
              clear c3
              (first | rw [c3b0] | (simp only [i64_w, i32_w]; rw [c3b0]) | skip)
              by_cases c4 : 0 ≤ x5_2
              · rw [if_pos c4] at H
                have c4b0 : decide (0 ≤ x5_2) = true := decide_eq_true c4
                clear c4
                replace H := Option.bind_eq_some_iff.mp H
                obtain ⟨t154, A60, H⟩ := H
                replace H : (if t154 = true then (reveilleref5_Split.l1 k2 a0 x4_1 (wrap64 (x5_2 + 1))) else (reveilleref5_Split.j2 k2 a0 x4_1 x5_2)) = some (r1, r2) := H
                have A6 := Aside0.mk A60
                clear A60
                by_cases c7 : t154 = true
                · subst c7
                  have H1 : (reveilleref5_Split.l1 k2 a0 x4_1 (wrap64 (x5_2 + 1))) = some (r1, r2) := by rw [if_pos rfl] at H; exact H
                  clear H
                  have H := H1
                  clear H1
                  have H' := Aside0.mk H
                  clear H
                  have p5 : 0 ≤ (x5_2 : Int) := of_decide_eq_true (by first | (with_reducible assumption) | assumption)
                  have q5 : x5_2 < (a0.size : Int) := of_decide_eq_true (by first | (with_reducible assumption) | assumption)
                  have hx5 := bt_at a0 x5_2
                  replace p5 := eq_true p5
                  replace q5 := eq_true q5
                  go_wp2_with (first | (go_at_call 31; (with_reducible refine (reveilleref5_Blank.calls (bt a0 x5_2) true _ A6.out).mono ?_); rintro e w' ⟨rfl, ⟨nd, rfl⟩⟩))
                  go_roundg k2
                  case measure => have := HK1.out; have := HK2.out; omega
                  case rel => exact ⟨(wrap64 (x5_2 + 1)), (by first | rfl | (simp; done) | (simp [*]; done)), H', ⟨by have := HK1.out; have := HK2.out; omega⟩, ⟨by (with_reducible repeat (first | apply Kd.R_alloc | apply Kd.R_drewN | apply Kd.R_drew)); exact HO_4.out⟩, ⟨by repeat (first | (with_reducible first | exact HB.out | apply below_alloc | apply pw_below_drewN | apply below_drew1) | exact HB.out)⟩⟩
                · replace c7 := Bool.eq_false_iff.mpr c7
                  subst c7
                  have H1 : (reveilleref5_Split.j2 k2 a0 x4_1 x5_2) = some (r1, r2) := by rw [if_neg (show ¬ (false = true) by decide)] at H; exact H
                  clear H
                  have H := H1
                  clear H1
                  have H' := Aside0.mk H
                  clear H
                  have p5 : 0 ≤ (x5_2 : Int) := of_decide_eq_true (by first | (with_reducible assumption) | assumption)
                  have q5 : x5_2 < (a0.size : Int) := of_decide_eq_true (by first | (with_reducible assumption) | assumption)
                  have hx5 := bt_at a0 x5_2
                  replace p5 := eq_true p5
                  replace q5 := eq_true q5
                  go_wp2_with (first | (go_at_call 31; (with_reducible refine (reveilleref5_Blank.calls (bt a0 x5_2) false _ A6.out).mono ?_); rintro e w' ⟨rfl, ⟨nd, rfl⟩⟩))
                  go_meet
                  case rel => exact ⟨_, (x5_2), (by first | rfl | (simp; done) | (simp [*]; done)), H', ⟨by have := HK1.out; have := HK2.out; first | omega | exact Nat.le_refl _⟩, ⟨by (with_reducible repeat (first | apply Kd.R_alloc | apply Kd.R_drewN | apply Kd.R_drew)); exact HO_4.out⟩, ⟨by repeat (first | (with_reducible first | exact HB.out | apply below_alloc | apply pw_below_drewN | apply below_drew1) | exact HB.out)⟩⟩
              · rw [if_neg c4] at H
                exact absurd H (by simp)
            · rw [if_neg c3] at H
              have c3b0 : decide (x5_2 < (a0.size : Int)) = false := decide_eq_false c3
              clear c3
              (first | rw [c3b0] | (simp only [i64_w, i32_w]; rw [c3b0]) | skip)
              have H' := Aside0.mk H
              clear H
              go_wp2
              go_meet
              case rel => exact ⟨_, (x5_2), (by first | rfl | (simp; done) | (simp [*]; done)), H', ⟨by have := HK1.out; have := HK2.out; first | omega | exact Nat.le_refl _⟩, ⟨by (with_reducible repeat (first | apply Kd.R_alloc | apply Kd.R_drewN | apply Kd.R_drew)); exact HO_4.out⟩, ⟨by repeat (first | (with_reducible first | exact HB.out | apply below_alloc | apply pw_below_drewN | apply below_drew1) | exact HB.out)⟩⟩
      case rest =>
        clear HC2
        try clear c1
        try clear p2
        try clear c3
        try clear c3b0
        try clear c4
        try clear c4b0
        try clear p5
        try clear q5
        try clear hx5
        try clear p6
        try clear c7
        try clear p2
        try clear p5
        try clear q5
        obtain ⟨kq, x5_1, rfl, HA, HJ1, HO_4, HB⟩ := hcut
        cases kq with
        | zero => exact absurd HA.out (by simp [reveilleref5_Split.j2])
        | succ kj1 =>
          have H := HA.out
          clear HA
          simp only [reveilleref5_Split.j2] at H
          by_cases c8 : x5_1 = (a0.size : Int)
          · rw [if_pos c8] at H
            have c8b0 : (x5_1 == (a0.size : Int)) = true := beq_iff_eq.mpr c8
            have c8b1 : (x5_1 != (a0.size : Int)) = false := bne_eq_false_iff_eq.mpr c8
            clear c8
            simp only [Option.some.injEq, Prod.mk.injEq] at H
            obtain ⟨rfl, rfl⟩ := H
            go_wp2
            go_ret2
            exact ⟨_, by first | rfl | (simp [errW_none, errW_some] <;> rfl) | (simp [*, errW_none, errW_some] <;> rfl), by (with_reducible repeat (first | apply Kd.R_alloc | apply Kd.R_drewN | apply Kd.R_drew)); exact HO_4.out, by repeat (first | (with_reducible first | exact HB.out | apply below_alloc | apply pw_below_drewN | apply below_drew1) | exact HB.out)⟩
          · rw [if_neg c8] at H
            have c8b0 : (x5_1 == (a0.size : Int)) = false := beq_eq_false_iff_ne.mpr c8
            have c8b1 : (x5_1 != (a0.size : Int)) = true := bne_iff_ne.mpr c8
            have HC9 := Aside0.mk H
            clear H
            go_upto_region 7 with (fail)
            go_cut [35] (fun v35 wc => ∃ (kq : Nat) (x35_8 : Bool), v35 = .bool x35_8 ∧ Aside0 (reveilleref5_Split.j3 kq a0 x4_1 x5_1 x35_8 = some (r1, r2)) ∧ Aside0 (kq ≤ kj1) ∧ Aside0 (Kd.R Kd.string 9 wc w.heap.size (fun _ => True) u4 x4_1) ∧ Aside0 (Below w.heap.size w wc))
            case first =>
              have H := HC9.out
              clear HC9
              by_cases c10 : 0 ≤ x5_1
              · rw [if_pos c10] at H
                have c10b0 : decide (0 ≤ x5_1) = true := decide_eq_true c10
                clear c10
                (first | rw [c10b0] | (simp only [i64_w, i32_w]; rw [c10b0]) | skip)
                by_cases c11 : x5_1 < (a0.size : Int)
                · rw [if_pos c11] at H
                  have c11b0 : decide (x5_1 < (a0.size : Int)) = true := decide_eq_true c11
                  clear c11
                  by_cases c13 : (bt a0 x5_1) = 34
                  · rw [if_pos c13] at H
                    have c13b0 : ((bt a0 x5_1) == 34) = true := beq_iff_eq.mpr c13
                    have c13b1 : ((bt a0 x5_1) != 34) = false := bne_eq_false_iff_eq.mpr c13
                    clear c13
                    have H' := Aside0.mk H
                    clear H
                    have p12 : 0 ≤ (x5_1 : Int) := of_decide_eq_true (by first | (with_reducible assumption) | assumption)
                    have q12 : x5_1 < (a0.size : Int) := of_decide_eq_true (by first | (with_reducible assumption) | assumption)
                    have hx12 := bt_at a0 x5_1
                    replace p12 := eq_true p12
                    replace q12 := eq_true q12
                    go_wp2
                    go_meet
                    case rel => exact ⟨_, (false), (by first | rfl | (simp; done) | (simp [*]; done)), H', ⟨by have := HK1.out; have := HJ1.out; first | omega | exact Nat.le_refl _⟩, ⟨by (with_reducible repeat (first | apply Kd.R_alloc | apply Kd.R_drewN | apply Kd.R_drew)); exact HO_4.out⟩, ⟨by repeat (first | (with_reducible first | exact HB.out | apply below_alloc | apply pw_below_drewN | apply below_drew1) | exact HB.out)⟩⟩
                  · rw [if_neg c13] at H
                    have c13b0 : ((bt a0 x5_1) == 34) = false := beq_eq_false_iff_ne.mpr c13
                    have c13b1 : ((bt a0 x5_1) != 34) = true := bne_iff_ne.mpr c13
                    have H' := Aside0.mk H
                    clear H
                    have p12 : 0 ≤ (x5_1 : Int) := of_decide_eq_true (by first | (with_reducible assumption) | assumption)
                    have q12 : x5_1 < (a0.size : Int) := of_decide_eq_true (by first | (with_reducible assumption) | assumption)
                    have hx12 := bt_at a0 x5_1
                    replace p12 := eq_true p12
                    replace q12 := eq_true q12
                    have p14 : 0 ≤ (x5_1 : Int) := of_decide_eq_true (by first | (with_reducible assumption) | assumption)
                    have q14 : x5_1 < (a0.size : Int) := of_decide_eq_true (by first | (with_reducible assumption) | assumption)
                    have hx14 := bt_at a0 x5_1
                    replace p14 := eq_true p14
                    replace q14 := eq_true q14
                    go_wp2
                    go_meet
                    case rel => exact ⟨_, (((bt a0 x5_1) != 39)), (by first | rfl | (simp; done) | (simp [*]; done)), H', ⟨by have := HK1.out; have := HJ1.out; first | omega | exact Nat.le_refl _⟩, ⟨by (with_reducible repeat (first | apply Kd.R_alloc | apply Kd.R_drewN | apply Kd.R_drew)); exact HO_4.out⟩, ⟨by repeat (first | (with_reducible first | exact HB.out | apply below_alloc | apply pw_below_drewN | apply below_drew1) | exact HB.out)⟩⟩
                · rw [if_neg c11] at H
                  exact absurd H (by simp)
              · rw [if_neg c10] at H
                exact absurd H (by simp)
            case rest =>
              clear HC9
              try clear c1
              try clear p1
              try clear q1
              try clear hx1
              try clear p2
              try clear c3
              try clear c3b0
              try clear c4
              try clear c4b0
              try clear p5
              try clear q5
              try clear hx5
              try clear p6
              try clear c7
              try clear c8
              try clear c8b0
              try clear c8b1
              try clear c10
              try clear c10b0
              try clear c11
              try clear c11b0
              try clear p12
              try clear q12
              try clear hx12
              try clear c13
              try clear c13b0
              try clear c13b1
              try clear p14
              try clear q14
              try clear hx14
              try clear p12
              try clear p14
              try clear p2
              try clear p5
              try clear p6
              try clear q12
              try clear q14
              try clear q5
              obtain ⟨kq, x35_8, rfl, HA, HJ8, HO_4, HB⟩ := hcut
              cases kq with
              | zero => exact absurd HA.out (by simp [reveilleref5_Split.j3])
              | succ kj8 =>
                have H := HA.out
                clear HA
                simp only [reveilleref5_Split.j3] at H
                by_cases c15 : x35_8 = true
                · subst c15
                  have H1 : (reveilleref5_Split.l2 kj8 a0 x4_1 x5_1 x5_1) = some (r1, r2) := by rw [if_pos rfl] at H; exact H
                  clear H
                  have H := H1
                  clear H1
                  have H' := Aside0.mk H
                  clear H
                  go_wp2
                  go_loopg [5] kj8 (fun kq v5 w' => ∃ (x5_4 : Int), v5 = .int .i64 x5_4 ∧ Aside0 (reveilleref5_Split.l2 kq a0 x4_1 x5_4 x5_1 = some (r1, r2)) ∧ Aside0 (kq ≤ kj8) ∧ Aside0 (Kd.R Kd.string 9 w' w.heap.size (fun _ => True) u4 x4_1) ∧ Aside0 (Below w.heap.size w w'))
                  case atStart => exact ⟨(x5_1), (by first | rfl | (simp; done) | (simp [*]; done)), H', ⟨Nat.le_refl _⟩, ⟨by (with_reducible repeat (first | apply Kd.R_alloc | apply Kd.R_drewN | apply Kd.R_drew)); exact HO_4.out⟩, ⟨by repeat (first | (with_reducible first | exact HB.out | apply below_alloc | apply pw_below_drewN | apply below_drew1) | exact HB.out)⟩⟩
                  case round =>
                    clear H'
                    try clear c1
                    try clear p1
                    try clear q1
                    try clear hx1
                    try clear p2
                    try clear c3
                    try clear c3b0
                    try clear c4
                    try clear c4b0
                    try clear p5
                    try clear q5
                    try clear hx5
                    try clear p6
                    try clear c7
                    try clear c8
                    try clear c8b0
                    try clear c8b1
                    try clear c10
                    try clear c10b0
                    try clear c11
                    try clear c11b0
                    try clear p12
                    try clear q12
                    try clear hx12
                    try clear c13
                    try clear c13b0
                    try clear c13b1
                    try clear p14
                    try clear q14
                    try clear hx14
                    try clear c15
                    try clear p1
                    try clear p12
                    try clear p14
                    try clear p2
                    try clear p5
                    try clear p6
                    try clear q1
                    try clear q12
                    try clear q14
                    try clear q5
                    obtain ⟨x5_4, rfl, HA, HK4, HO_4, HB⟩ := hrel
                    cases gk with
                    | zero => exact absurd HA.out (by simp [reveilleref5_Split.l2])
                    | succ k4 =>
                      have H := HA.out
                      clear HA
                      simp only [reveilleref5_Split.l2] at H
                      by_cases c16 : x5_4 < (a0.size : Int)
                      · rw [if_pos c16] at H
                        have c16b0 : decide (x5_4 < (a0.size : Int)) = true := decide_eq_true c16
                        clear c16
                        by_cases c17 : 0 ≤ x5_4
                        · rw [if_pos c17] at H
                          have c17b0 : decide (0 ≤ x5_4) = true := decide_eq_true c17
                          clear c17
                          replace H := Option.bind_eq_some_iff.mp H
                          obtain ⟨t155, A190, H⟩ := H
                          replace H : (if t155 = true then (if 0 ≤ x5_1 then (if x5_1 ≤ x5_4 then (if x5_4 ≤ (a0.size : Int) then (if x4_1.length < 8796093022208 then (reveilleref5_Split.l0 k4 a0 (x4_1 ++ [a0.extract (x5_1 : Int).toNat (x5_4 : Int).toNat]) x5_4) else (none)) else (none)) else (none)) else (none)) else (reveilleref5_Split.l2 k4 a0 x4_1 (wrap64 (x5_4 + 1)) x5_1)) = some (r1, r2) := H
                          have A19 := Aside0.mk A190
                          clear A190
                          by_cases c20 : t155 = true
                          · subst c20
                            have H1 : (if 0 ≤ x5_1 then (if x5_1 ≤ x5_4 then (if x5_4 ≤ (a0.size : Int) then (if x4_1.length < 8796093022208 then (reveilleref5_Split.l0 k4 a0 (x4_1 ++ [a0.extract (x5_1 : Int).toNat (x5_4 : Int).toNat]) x5_4) else (none)) else (none)) else (none)) else (none)) = some (r1, r2) := by rw [if_pos rfl] at H; exact H
                            clear H
                            have H := H1
                            clear H1
                            by_cases c21 : 0 ≤ x5_1
                            · rw [if_pos c21] at H
                              have c21b0 := eq_true c21
                              have c21b1 : decide (0 ≤ x5_1) = true := decide_eq_true c21
                              clear c21
                              by_cases c22 : x5_1 ≤ x5_4
                              · rw [if_pos c22] at H
                                have c22b0 := eq_true c22
                                have c22b1 : decide (x5_1 ≤ x5_4) = true := decide_eq_true c22
                                clear c22
                                by_cases c23 : x5_4 ≤ (a0.size : Int)
                                · rw [if_pos c23] at H
                                  have c23b0 := eq_true c23
                                  have c23b1 : decide (x5_4 ≤ (a0.size : Int)) = true := decide_eq_true c23
                                  clear c23
                                  by_cases c24 : x4_1.length < 8796093022208
                                  · rw [if_pos c24] at H
                                    have LMc24 := Aside0.mk c24
                                    clear c24
                                    obtain ⟨y156, hy156⟩ : ∃ y_ : List ByteArray, y_ = (x4_1 ++ [a0.extract (x5_1 : Int).toNat (x5_4 : Int).toNat]) := ⟨_, rfl⟩
                                    replace H : (reveilleref5_Split.l0 k4 a0 y156 x5_4) = some (r1, r2) := by first | (rw [hy156]; with_reducible exact H) | (have H2_ := (Option.bind_some _ _).symm.trans H; rw [hy156]; with_reducible exact H2_) | (have H2_ := (Option.bind_some _ _).symm.trans H; with_reducible exact H2_) | with_reducible exact H | (rw [hy156]; exact H) | exact H
                                    have Ny156 := Aside0.mk hy156
                                    clear hy156
                                    have H' := Aside0.mk H
                                    clear H
                                    have p18 : 0 ≤ (x5_4 : Int) := of_decide_eq_true (by first | (with_reducible assumption) | assumption)
                                    have q18 : x5_4 < (a0.size : Int) := of_decide_eq_true (by first | (with_reducible assumption) | assumption)
                                    have hx18 := bt_at a0 x5_4
                                    replace p18 := eq_true p18
                                    replace q18 := eq_true q18
                                    go_wp2_with (first | (go_at_call 31; (with_reducible refine (reveilleref5_Blank.calls (bt a0 x5_4) true _ A19.out).mono ?_); rintro e w' ⟨rfl, ⟨nd, rfl⟩⟩) | ((with_reducible refine gate_builtin (b := .append) (xs := #[.tmp 50, .tmp 55]) rfl ?_); at_builtin; refine Kd.R_append Kd.string (w0 := w) w.heap.size rfl (.tmp 50) (.tmp 55) 35 9 (.string ⟨#[]⟩) 16 rfl Tryd.underlying35 info9 rfl (by decide) (by omega) u4 x4_1 (a0.extract (x5_1 : Int).toNat (x5_4 : Int).toNat) [.string (a0.extract (x5_1 : Int).toNat (x5_4 : Int).toNat)] (fun _ => True) (fun _ => False) rfl rfl ?aP (fun _ hk => hk.elim) ?aF ?aO ?aB ?aS ?aL ?_; (case aP => exact rfl); (case aB => exact (by repeat (first | (with_reducible first | exact HB.out | apply below_alloc | apply pw_below_drewN | apply below_drew1) | exact HB.out))); (case aF => exact (fun _ _ => trivial)); (case aO => exact (by (with_reducible repeat (first | apply Kd.R_alloc | apply Kd.R_drewN | apply Kd.R_drew)); exact HO_4.out)); (case aS => exact (below_size (by repeat (first | (with_reducible first | exact HB.out | apply below_alloc | apply pw_below_drewN | apply below_drew1) | exact HB.out)))); (case aL => have := LMc24.out; omega); intro v157 w25 ho hb hg hat; rw [← Ny156.out] at ho; have n0_ := Aside0.mk (hb); have n1_ := Aside0.mk (ho); clear HB; clear HO_4; have HB := n0_; have HO158 := n1_; clear n0_ n1_; clear ho hb hg hat))
                                    go_roundg k4
                                    case measure => have := HK1.out; have := HJ1.out; have := HJ8.out; have := HK4.out; omega
                                    case rel => exact ⟨(y156), (x5_4), (by first | rfl | (simp; done) | (simp [*]; done)), H', ⟨by have := HK1.out; have := HJ1.out; have := HJ8.out; have := HK4.out; omega⟩, ⟨by (with_reducible repeat (first | apply Kd.R_alloc | apply Kd.R_drewN | apply Kd.R_drew)); exact HO158.out⟩, ⟨by repeat (first | (with_reducible first | exact HB.out | apply below_alloc | apply pw_below_drewN | apply below_drew1) | exact HB.out)⟩⟩
                                  · rw [if_neg c24] at H
                                    exact absurd H (by simp)
                                · rw [if_neg c23] at H
                                  exact absurd H (by simp)
                              · rw [if_neg c22] at H
                                exact absurd H (by simp)
                            · rw [if_neg c21] at H
                              exact absurd H (by simp)
                          · replace c20 := Bool.eq_false_iff.mpr c20
                            subst c20
                            have H1 : (reveilleref5_Split.l2 k4 a0 x4_1 (wrap64 (x5_4 + 1)) x5_1) = some (r1, r2) := by rw [if_neg (show ¬ (false = true) by decide)] at H; exact H
                            clear H
                            have H := H1
                            clear H1
                            have H' := Aside0.mk H
                            clear H
                            have p18 : 0 ≤ (x5_4 : Int) := of_decide_eq_true (by first | (with_reducible assumption) | assumption)
                            have q18 : x5_4 < (a0.size : Int) := of_decide_eq_true (by first | (with_reducible assumption) | assumption)
                            have hx18 := bt_at a0 x5_4
                            replace p18 := eq_true p18
                            replace q18 := eq_true q18
                            go_wp2_with (first | (go_at_call 31; (with_reducible refine (reveilleref5_Blank.calls (bt a0 x5_4) false _ A19.out).mono ?_); rintro e w' ⟨rfl, ⟨nd, rfl⟩⟩))
                            go_roundg k4
                            case measure => have := HK1.out; have := HJ1.out; have := HJ8.out; have := HK4.out; omega
                            case rel => exact ⟨(wrap64 (x5_4 + 1)), (by first | rfl | (simp; done) | (simp [*]; done)), H', ⟨by have := HK1.out; have := HJ1.out; have := HJ8.out; have := HK4.out; omega⟩, ⟨by (with_reducible repeat (first | apply Kd.R_alloc | apply Kd.R_drewN | apply Kd.R_drew)); exact HO_4.out⟩, ⟨by repeat (first | (with_reducible first | exact HB.out | apply below_alloc | apply pw_below_drewN | apply below_drew1) | exact HB.out)⟩⟩
                        · rw [if_neg c17] at H
                          exact absurd H (by simp)
                      · rw [if_neg c16] at H
                        have c16b0 : decide (x5_4 < (a0.size : Int)) = false := decide_eq_false c16
                        clear c16
                        by_cases c26 : 0 ≤ x5_1
                        · rw [if_pos c26] at H
                          have c26b0 := eq_true c26
                          have c26b1 : decide (0 ≤ x5_1) = true := decide_eq_true c26
                          clear c26
                          by_cases c27 : x5_1 ≤ x5_4
                          · rw [if_pos c27] at H
                            have c27b0 := eq_true c27
                            have c27b1 : decide (x5_1 ≤ x5_4) = true := decide_eq_true c27
                            clear c27
                            by_cases c28 : x5_4 ≤ (a0.size : Int)
                            · rw [if_pos c28] at H
                              have c28b0 := eq_true c28
                              have c28b1 : decide (x5_4 ≤ (a0.size : Int)) = true := decide_eq_true c28
                              clear c28
                              by_cases c29 : x4_1.length < 8796093022208
                              · rw [if_pos c29] at H
                                have LMc29 := Aside0.mk c29
                                clear c29
                                obtain ⟨y159, hy159⟩ : ∃ y_ : List ByteArray, y_ = (x4_1 ++ [a0.extract (x5_1 : Int).toNat (x5_4 : Int).toNat]) := ⟨_, rfl⟩
                                replace H : (reveilleref5_Split.l0 k4 a0 y159 x5_4) = some (r1, r2) := by first | (rw [hy159]; with_reducible exact H) | (have H2_ := (Option.bind_some _ _).symm.trans H; rw [hy159]; with_reducible exact H2_) | (have H2_ := (Option.bind_some _ _).symm.trans H; with_reducible exact H2_) | with_reducible exact H | (rw [hy159]; exact H) | exact H
                                have Ny159 := Aside0.mk hy159
                                clear hy159
                                have H' := Aside0.mk H
                                clear H
                                go_wp2_with (first | ((with_reducible refine gate_builtin (b := .append) (xs := #[.tmp 50, .tmp 55]) rfl ?_); at_builtin; refine Kd.R_append Kd.string (w0 := w) w.heap.size rfl (.tmp 50) (.tmp 55) 35 9 (.string ⟨#[]⟩) 16 rfl Tryd.underlying35 info9 rfl (by decide) (by omega) u4 x4_1 (a0.extract (x5_1 : Int).toNat (x5_4 : Int).toNat) [.string (a0.extract (x5_1 : Int).toNat (x5_4 : Int).toNat)] (fun _ => True) (fun _ => False) rfl rfl ?aP (fun _ hk => hk.elim) ?aF ?aO ?aB ?aS ?aL ?_; (case aP => exact rfl); (case aB => exact (by repeat (first | (with_reducible first | exact HB.out | apply below_alloc | apply pw_below_drewN | apply below_drew1) | exact HB.out))); (case aF => exact (fun _ _ => trivial)); (case aO => exact (by (with_reducible repeat (first | apply Kd.R_alloc | apply Kd.R_drewN | apply Kd.R_drew)); exact HO_4.out)); (case aS => exact (below_size (by repeat (first | (with_reducible first | exact HB.out | apply below_alloc | apply pw_below_drewN | apply below_drew1) | exact HB.out)))); (case aL => have := LMc29.out; omega); intro v160 w30 ho hb hg hat; rw [← Ny159.out] at ho; have n0_ := Aside0.mk (hb); have n1_ := Aside0.mk (ho); clear HB; clear HO_4; have HB := n0_; have HO161 := n1_; clear n0_ n1_; clear ho hb hg hat))
                                go_roundg k4
                                case measure => have := HK1.out; have := HJ1.out; have := HJ8.out; have := HK4.out; omega
                                case rel => exact ⟨(y159), (x5_4), (by first | rfl | (simp; done) | (simp [*]; done)), H', ⟨by have := HK1.out; have := HJ1.out; have := HJ8.out; have := HK4.out; omega⟩, ⟨by (with_reducible repeat (first | apply Kd.R_alloc | apply Kd.R_drewN | apply Kd.R_drew)); exact HO161.out⟩, ⟨by repeat (first | (with_reducible first | exact HB.out | apply below_alloc | apply pw_below_drewN | apply below_drew1) | exact HB.out)⟩⟩
                              · rw [if_neg c29] at H
                                exact absurd H (by simp)
                            · rw [if_neg c28] at H
                              exact absurd H (by simp)
                          · rw [if_neg c27] at H
                            exact absurd H (by simp)
                        · rw [if_neg c26] at H
                          exact absurd H (by simp)
                · replace c15 := Bool.eq_false_iff.mpr c15
                  subst c15
                  have H1 : (if 0 ≤ x5_1 then (if x5_1 < (a0.size : Int) then (reveilleref5_Split.l3 kj8 a0 x4_1 (wrap64 (x5_1 + 1)) (bt a0 x5_1) ([] : List Int)) else (none)) else (none)) = some (r1, r2) := by rw [if_neg (show ¬ (false = true) by decide)] at H; exact H
                  clear H
                  have H := H1
                  clear H1
                  by_cases c31 : 0 ≤ x5_1
                  · rw [if_pos c31] at H
                    have c31b0 : decide (0 ≤ x5_1) = true := decide_eq_true c31
                    clear c31
                    by_cases c32 : x5_1 < (a0.size : Int)
                    · rw [if_pos c32] at H
                      have c32b0 : decide (x5_1 < (a0.size : Int)) = true := decide_eq_true c32
                      clear c32
                      have H' := Aside0.mk H
                      clear H
                      have p33 : 0 ≤ (x5_1 : Int) := of_decide_eq_true (by first | (with_reducible assumption) | assumption)
                      have q33 : x5_1 < (a0.size : Int) := of_decide_eq_true (by first | (with_reducible assumption) | assumption)
                      have hx33 := bt_at a0 x5_1
                      replace p33 := eq_true p33
                      replace q33 := eq_true q33
                      go_wp2
                      go_loopg [5, 8] kj8 (fun kq v5 v8 w' => ∃ (x5_4 : Int) (x8_4 : List Int), v5 = .int .i64 x5_4 ∧ Aside0 (reveilleref5_Split.l3 kq a0 x4_1 x5_4 (bt a0 x5_1) x8_4 = some (r1, r2)) ∧ Aside0 (kq ≤ kj8) ∧ Aside0 (Kd.R Kd.string 9 w' w.heap.size (fun _ => True) u4 x4_1) ∧ Aside0 (Kd.R (Kd.int .u8) 5 w' w.heap.size (fun _ => True) v8 x8_4) ∧ Aside0 (Below w.heap.size w w'))
                      case atStart => exact ⟨(wrap64 (x5_1 + 1)), (([] : List Int)), (by first | rfl | (simp; done) | (simp [*]; done)), H', ⟨Nat.le_refl _⟩, ⟨by (with_reducible repeat (first | apply Kd.R_alloc | apply Kd.R_drewN | apply Kd.R_drew)); exact HO_4.out⟩, ⟨by first | exact Kd.R_nil _ _ _ _ _ | exact Kd.N_nil _ _ _ _ _ | exact Kd.V_nil _ _ _ _ _ | exact Kd.Q_nil _ _ _ _ _ | exact Kd.S_nil _ _ _ _ _⟩, ⟨by repeat (first | (with_reducible first | exact HB.out | apply below_alloc | apply pw_below_drewN | apply below_drew1) | exact HB.out)⟩⟩
                      case round =>
                        clear H'
                        try clear c1
                        try clear p1
                        try clear q1
                        try clear hx1
                        try clear c2
                        try clear p2
                        try clear c3
                        try clear c3b0
                        try clear p3
                        try clear q3
                        try clear hx3
                        try clear c4
                        try clear c4b0
                        try clear p5
                        try clear q5
                        try clear hx5
                        try clear p6
                        try clear c7
                        try clear c8
                        try clear c8b0
                        try clear c8b1
                        try clear c10
                        try clear c10b0
                        try clear c11
                        try clear c11b0
                        try clear p12
                        try clear q12
                        try clear hx12
                        try clear c13
                        try clear c13b0
                        try clear c13b1
                        try clear p14
                        try clear q14
                        try clear hx14
                        try clear c15
                        try clear c16
                        try clear c16b0
                        try clear c17
                        try clear c17b0
                        try clear p18
                        try clear q18
                        try clear hx18
                        try clear c19
                        try clear c20
                        try clear c21
                        try clear c21b0
                        try clear c21b1
                        try clear c22
                        try clear c22b0
                        try clear c22b1
                        try clear c23
                        try clear c23b0
                        try clear c23b1
                        try clear c24
                        try clear c26
                        try clear c26b0
                        try clear c26b1
                        try clear c27
                        try clear c27b0
                        try clear c27b1
                        try clear c28
                        try clear c28b0
                        try clear c28b1
                        try clear c29
                        try clear c31
                        try clear c31b0
                        try clear c32
                        try clear c32b0
                        try clear p33
                        try clear q33
                        try clear hx33
                        try clear p1
                        try clear p12
                        try clear p14
                        try clear p18
                        try clear p2
                        try clear p33
                        try clear p5
                        try clear p6
                        try clear q1
                        try clear q12
                        try clear q14
                        try clear q18
                        try clear q33
                        try clear q5
                        obtain ⟨x5_4, x8_4, rfl, HA, HK4, HO_4, HO_8, HB⟩ := hrel
                        cases gk with
                        | zero => exact absurd HA.out (by simp [reveilleref5_Split.l3])
                        | succ k4 =>
                          have H := HA.out
                          clear HA
                          simp only [reveilleref5_Split.l3] at H
                          have HC34 := Aside0.mk H
                          clear H
                          go_upto_region 15 with (fail)
                          go_cut [72] (fun v72 wc => ∃ (kq : Nat) (x72_33 : Bool), v72 = .bool x72_33 ∧ Aside0 (reveilleref5_Split.j6 kq a0 x4_1 x5_4 (bt a0 x5_1) x8_4 x72_33 = some (r1, r2)) ∧ Aside0 (kq ≤ k4) ∧ Aside0 (Kd.R Kd.string 9 wc w.heap.size (fun _ => True) u4 x4_1) ∧ Aside0 (Kd.R (Kd.int .u8) 5 wc w.heap.size (fun _ => True) u8 x8_4) ∧ Aside0 (Below w.heap.size w wc))
                          case first =>
                            have H := HC34.out
                            clear HC34
                            by_cases c35 : x5_4 < (a0.size : Int)
                            · rw [if_pos c35] at H
                              have c35b0 : decide (x5_4 < (a0.size : Int)) = true := decide_eq_true c35
                              clear c35
                              (first | rw [c35b0] | (simp only [i64_w, i32_w]; rw [c35b0]) | skip)
                              by_cases c36 : 0 ≤ x5_4
                              · rw [if_pos c36] at H
                                have c36b0 : decide (0 ≤ x5_4) = true := decide_eq_true c36
                                clear c36
                                have H' := Aside0.mk H
                                clear H
                                have p37 : 0 ≤ (x5_4 : Int) := of_decide_eq_true (by first | (with_reducible assumption) | assumption)
                                have q37 : x5_4 < (a0.size : Int) := of_decide_eq_true (by first | (with_reducible assumption) | assumption)
                                have hx37 := bt_at a0 x5_4
                                replace p37 := eq_true p37
                                replace q37 := eq_true q37
                                go_wp2
                                go_meet
                                case rel => exact ⟨_, (((bt a0 x5_4) != (bt a0 x5_1))), (by first | rfl | (simp; done) | (simp [*]; done)), H', ⟨by have := HK1.out; have := HJ1.out; have := HJ8.out; have := HK4.out; first | omega | exact Nat.le_refl _⟩, ⟨by (with_reducible repeat (first | apply Kd.R_alloc | apply Kd.R_drewN | apply Kd.R_drew)); exact HO_4.out⟩, ⟨by (with_reducible repeat (first | apply Kd.R_alloc | apply Kd.R_drewN | apply Kd.R_drew)); exact HO_8.out⟩, ⟨by repeat (first | (with_reducible first | exact HB.out | apply below_alloc | apply pw_below_drewN | apply below_drew1) | exact HB.out)⟩⟩
                              · rw [if_neg c36] at H
                                exact absurd H (by simp)
                            · rw [if_neg c35] at H
                              have c35b0 : decide (x5_4 < (a0.size : Int)) = false := decide_eq_false c35
                              clear c35
                              (first | rw [c35b0] | (simp only [i64_w, i32_w]; rw [c35b0]) | skip)
                              have H' := Aside0.mk H
                              clear H
                              go_wp2
                              go_meet
                              case rel => exact ⟨_, (false), (by first | rfl | (simp; done) | (simp [*]; done)), H', ⟨by have := HK1.out; have := HJ1.out; have := HJ8.out; have := HK4.out; first | omega | exact Nat.le_refl _⟩, ⟨by (with_reducible repeat (first | apply Kd.R_alloc | apply Kd.R_drewN | apply Kd.R_drew)); exact HO_4.out⟩, ⟨by (with_reducible repeat (first | apply Kd.R_alloc | apply Kd.R_drewN | apply Kd.R_drew)); exact HO_8.out⟩, ⟨by repeat (first | (with_reducible first | exact HB.out | apply below_alloc | apply pw_below_drewN | apply below_drew1) | exact HB.out)⟩⟩
                          case rest =>
                            clear HC34
                            try clear c1
                            try clear p1
                            try clear q1
                            try clear hx1
                            try clear c2
                            try clear p2
                            try clear c3
                            try clear c3b0
                            try clear p3
                            try clear q3
                            try clear hx3
                            try clear c4
                            try clear c4b0
                            try clear p5
                            try clear q5
                            try clear hx5
                            try clear p6
                            try clear c7
                            try clear c8
                            try clear c8b0
                            try clear c8b1
                            try clear c10
                            try clear c10b0
                            try clear c11
                            try clear c11b0
                            try clear p12
                            try clear q12
                            try clear hx12
                            try clear c13
                            try clear c13b0
                            try clear c13b1
                            try clear p14
                            try clear q14
                            try clear hx14
                            try clear c15
                            try clear c16
                            try clear c16b0
                            try clear c17
                            try clear c17b0
                            try clear p18
                            try clear q18
                            try clear hx18
                            try clear c19
                            try clear c20
                            try clear c21
                            try clear c21b0
                            try clear c21b1
                            try clear c22
                            try clear c22b0
                            try clear c22b1
                            try clear c23
                            try clear c23b0
                            try clear c23b1
                            try clear c24
                            try clear c26
                            try clear c26b0
                            try clear c26b1
                            try clear c27
                            try clear c27b0
                            try clear c27b1
                            try clear c28
                            try clear c28b0
                            try clear c28b1
                            try clear c29
                            try clear c31
                            try clear c31b0
                            try clear c32
                            try clear c32b0
                            try clear p33
                            try clear q33
                            try clear hx33
                            try clear c35
                            try clear c35b0
                            try clear c36
                            try clear c36b0
                            try clear p37
                            try clear q37
                            try clear hx37
                            try clear p1
                            try clear p12
                            try clear p14
                            try clear p18
                            try clear p2
                            try clear p3
                            try clear p33
                            try clear p37
                            try clear p5
                            try clear p6
                            try clear q1
                            try clear q12
                            try clear q14
                            try clear q18
                            try clear q3
                            try clear q33
                            try clear q37
                            try clear q5
                            obtain ⟨kq, x72_33, rfl, HA, HJ33, HO_4, HO_8, HB⟩ := hcut
                            cases kq with
                            | zero => exact absurd HA.out (by simp [reveilleref5_Split.j6])
                            | succ kj33 =>
                              have H := HA.out
                              clear HA
                              simp only [reveilleref5_Split.j6] at H
                              by_cases c38 : x72_33 = true
                              · subst c38
                                have H1 : (if 0 ≤ x5_4 then (if x5_4 < (a0.size : Int) then (if (bt a0 x5_4) = 92 then (if (wrap64 (x5_4 + 1)) = (a0.size : Int) then (reveilleref5_Split.j7 kj33 a0 x4_1 (wrap64 (x5_4 + 1)) (bt a0 x5_1) x8_4 true) else (if 0 ≤ (wrap64 (x5_4 + 1)) then (if (wrap64 (x5_4 + 1)) < (a0.size : Int) then (if (bt a0 (wrap64 (x5_4 + 1))) = 34 then (reveilleref5_Split.j7 kj33 a0 x4_1 (wrap64 (x5_4 + 1)) (bt a0 x5_1) x8_4 false) else (if (bt a0 (wrap64 (x5_4 + 1))) = 39 then (reveilleref5_Split.j7 kj33 a0 x4_1 (wrap64 (x5_4 + 1)) (bt a0 x5_1) x8_4 false) else (if (bt a0 (wrap64 (x5_4 + 1))) = 92 then (reveilleref5_Split.j7 kj33 a0 x4_1 (wrap64 (x5_4 + 1)) (bt a0 x5_1) x8_4 false) else (reveilleref5_Split.j7 kj33 a0 x4_1 (wrap64 (x5_4 + 1)) (bt a0 x5_1) x8_4 ((bt a0 (wrap64 (x5_4 + 1))) != 110))))) else (none)) else (none))) else (if x8_4.length < 140737488355328 then (reveilleref5_Split.l3 kj33 a0 x4_1 (wrap64 (x5_4 + 1)) (bt a0 x5_1) (x8_4 ++ [bt a0 x5_4])) else (none))) else (none)) else (none)) = some (r1, r2) := by rw [if_pos rfl] at H; exact H
                                clear H
                                have H := H1
                                clear H1
                                by_cases c39 : 0 ≤ x5_4
                                · rw [if_pos c39] at H
                                  have c39b0 : decide (0 ≤ x5_4) = true := decide_eq_true c39
                                  clear c39
                                  by_cases c40 : x5_4 < (a0.size : Int)
                                  · rw [if_pos c40] at H
                                    have c40b0 : decide (x5_4 < (a0.size : Int)) = true := decide_eq_true c40
                                    clear c40
                                    by_cases c42 : (bt a0 x5_4) = 92
                                    · rw [if_pos c42] at H
                                      have c42b0 : ((bt a0 x5_4) == 92) = true := beq_iff_eq.mpr c42
                                      have c42b1 : ((bt a0 x5_4) != 92) = false := bne_eq_false_iff_eq.mpr c42
                                      clear c42
                                      have HC43 := Aside0.mk H
                                      clear H
                                      have p41 : 0 ≤ (x5_4 : Int) := of_decide_eq_true (by first | (with_reducible assumption) | assumption)
                                      have q41 : x5_4 < (a0.size : Int) := of_decide_eq_true (by first | (with_reducible assumption) | assumption)
                                      have hx41 := bt_at a0 x5_4
                                      replace p41 := eq_true p41
                                      replace q41 := eq_true q41
                                      go_upto_region 18 with (fail)
                                      go_cut [106] (fun v106 wc => ∃ (kq : Nat) (x106_42 : Bool), v106 = .bool x106_42 ∧ Aside0 (reveilleref5_Split.j7 kq a0 x4_1 (wrap64 (x5_4 + 1)) (bt a0 x5_1) x8_4 x106_42 = some (r1, r2)) ∧ Aside0 (kq ≤ kj33) ∧ Aside0 (Kd.R Kd.string 9 wc w.heap.size (fun _ => True) u4 x4_1) ∧ Aside0 (Kd.R (Kd.int .u8) 5 wc w.heap.size (fun _ => True) u8 x8_4) ∧ Aside0 (Below w.heap.size w wc))
                                      case first =>
                                        have H := HC43.out
                                        clear HC43
                                        by_cases c44 : (wrap64 (x5_4 + 1)) = (a0.size : Int)
                                        · rw [if_pos c44] at H
                                          have c44b0 : ((wrap64 (x5_4 + 1)) == (a0.size : Int)) = true := beq_iff_eq.mpr c44
                                          have c44b1 : ((wrap64 (x5_4 + 1)) != (a0.size : Int)) = false := bne_eq_false_iff_eq.mpr c44
                                          clear c44
                                          (first | rw [c44b0] | (simp only [i64_w, i32_w]; rw [c44b0]) | skip)
                                          have H' := Aside0.mk H
                                          clear H
                                          go_wp2
                                          go_meet
                                          case rel => exact ⟨_, (true), (by first | rfl | (simp; done) | (simp [*]; done)), H', ⟨by have := HK1.out; have := HJ1.out; have := HJ8.out; have := HK4.out; have := HJ33.out; first | omega | exact Nat.le_refl _⟩, ⟨by (with_reducible repeat (first | apply Kd.R_alloc | apply Kd.R_drewN | apply Kd.R_drew)); exact HO_4.out⟩, ⟨by (with_reducible repeat (first | apply Kd.R_alloc | apply Kd.R_drewN | apply Kd.R_drew)); exact HO_8.out⟩, ⟨by repeat (first | (with_reducible first | exact HB.out | apply below_alloc | apply pw_below_drewN | apply below_drew1) | exact HB.out)⟩⟩
                                        · rw [if_neg c44] at H
                                          have c44b0 : ((wrap64 (x5_4 + 1)) == (a0.size : Int)) = false := beq_eq_false_iff_ne.mpr c44
                                          have c44b1 : ((wrap64 (x5_4 + 1)) != (a0.size : Int)) = true := bne_iff_ne.mpr c44
                                          (first | rw [c44b0] | (simp only [i64_w, i32_w]; rw [c44b0]) | skip)
                                          obtain ⟨ji45, hji45⟩ : ∃ j_ : Int, (wrap64 (x5_4 + 1)) = j_ := ⟨_, rfl⟩
                                          replace H : (if 0 ≤ (ji45) then (if (ji45) < (a0.size : Int) then (if (bt a0 (ji45)) = 34 then (reveilleref5_Split.j7 kj33 a0 x4_1 ji45 (bt a0 x5_1) x8_4 false) else (if (bt a0 (ji45)) = 39 then (reveilleref5_Split.j7 kj33 a0 x4_1 ji45 (bt a0 x5_1) x8_4 false) else (if (bt a0 (ji45)) = 92 then (reveilleref5_Split.j7 kj33 a0 x4_1 ji45 (bt a0 x5_1) x8_4 false) else (reveilleref5_Split.j7 kj33 a0 x4_1 ji45 (bt a0 x5_1) x8_4 ((bt a0 (ji45)) != 110))))) else (none)) else (none)) = some (r1, r2) := by first | (rw [hji45] at H; exact H) | (simp only [hji45] at H ⊢; exact H)
                                          (try rw [hji45] at c44b0)
                                          (try rw [hji45] at c44b1)
                                          have hji45w : (IntKind.i64.wrap (x5_4 + 1)) = ji45 := (i64_w _).trans hji45
                                          by_cases c46 : 0 ≤ (ji45)
                                          · rw [if_pos c46] at H
                                            have c46b0 : decide (0 ≤ (ji45)) = true := decide_eq_true c46
                                            clear c46
                                            by_cases c47 : (ji45) < (a0.size : Int)
                                            · rw [if_pos c47] at H
                                              have c47b0 : decide ((ji45) < (a0.size : Int)) = true := decide_eq_true c47
                                              clear c47
                                              by_cases c49 : (bt a0 (ji45)) = 34
                                              · rw [if_pos c49] at H
                                                have c49b0 : ((bt a0 (ji45)) == 34) = true := beq_iff_eq.mpr c49
                                                have c49b1 : ((bt a0 (ji45)) != 34) = false := bne_eq_false_iff_eq.mpr c49
                                                clear c49
                                                have H' := Aside0.mk H
                                                clear H
                                                have p48 : 0 ≤ ((ji45) : Int) := of_decide_eq_true (by first | (with_reducible assumption) | assumption)
                                                have q48 : (ji45) < (a0.size : Int) := of_decide_eq_true (by first | (with_reducible assumption) | assumption)
                                                have hx48 := bt_at a0 (ji45)
                                                replace p48 := eq_true p48
                                                replace q48 := eq_true q48
                                                go_wp2
                                                subst hji45
                                                go_meet
                                                case rel => exact ⟨_, (false), (by first | rfl | (simp; done) | (simp [*]; done)), H', ⟨by have := HK1.out; have := HJ1.out; have := HJ8.out; have := HK4.out; have := HJ33.out; first | omega | exact Nat.le_refl _⟩, ⟨by (with_reducible repeat (first | apply Kd.R_alloc | apply Kd.R_drewN | apply Kd.R_drew)); exact HO_4.out⟩, ⟨by (with_reducible repeat (first | apply Kd.R_alloc | apply Kd.R_drewN | apply Kd.R_drew)); exact HO_8.out⟩, ⟨by repeat (first | (with_reducible first | exact HB.out | apply below_alloc | apply pw_below_drewN | apply below_drew1) | exact HB.out)⟩⟩
                                              · rw [if_neg c49] at H
                                                have c49b0 : ((bt a0 (ji45)) == 34) = false := beq_eq_false_iff_ne.mpr c49
                                                have c49b1 : ((bt a0 (ji45)) != 34) = true := bne_iff_ne.mpr c49
                                                by_cases c51 : (bt a0 (ji45)) = 39
                                                · rw [if_pos c51] at H
                                                  have c51b0 : ((bt a0 (ji45)) == 39) = true := beq_iff_eq.mpr c51
                                                  have c51b1 : ((bt a0 (ji45)) != 39) = false := bne_eq_false_iff_eq.mpr c51
                                                  clear c51
                                                  have H' := Aside0.mk H
                                                  clear H
                                                  have p48 : 0 ≤ ((ji45) : Int) := of_decide_eq_true (by first | (with_reducible assumption) | assumption)
                                                  have q48 : (ji45) < (a0.size : Int) := of_decide_eq_true (by first | (with_reducible assumption) | assumption)
                                                  have hx48 := bt_at a0 (ji45)
                                                  replace p48 := eq_true p48
                                                  replace q48 := eq_true q48
                                                  have p50 : 0 ≤ ((ji45) : Int) := of_decide_eq_true (by first | (with_reducible assumption) | assumption)
                                                  have q50 : (ji45) < (a0.size : Int) := of_decide_eq_true (by first | (with_reducible assumption) | assumption)
                                                  have hx50 := bt_at a0 (ji45)
                                                  replace p50 := eq_true p50
                                                  replace q50 := eq_true q50
                                                  go_wp2
                                                  subst hji45
                                                  go_meet
                                                  case rel => exact ⟨_, (false), (by first | rfl | (simp; done) | (simp [*]; done)), H', ⟨by have := HK1.out; have := HJ1.out; have := HJ8.out; have := HK4.out; have := HJ33.out; first | omega | exact Nat.le_refl _⟩, ⟨by (with_reducible repeat (first | apply Kd.R_alloc | apply Kd.R_drewN | apply Kd.R_drew)); exact HO_4.out⟩, ⟨by (with_reducible repeat (first | apply Kd.R_alloc | apply Kd.R_drewN | apply Kd.R_drew)); exact HO_8.out⟩, ⟨by repeat (first | (with_reducible first | exact HB.out | apply below_alloc | apply pw_below_drewN | apply below_drew1) | exact HB.out)⟩⟩
                                                · rw [if_neg c51] at H
                                                  have c51b0 : ((bt a0 (ji45)) == 39) = false := beq_eq_false_iff_ne.mpr c51
                                                  have c51b1 : ((bt a0 (ji45)) != 39) = true := bne_iff_ne.mpr c51
                                                  by_cases c53 : (bt a0 (ji45)) = 92
                                                  · rw [if_pos c53] at H
                                                    have c53b0 : ((bt a0 (ji45)) == 92) = true := beq_iff_eq.mpr c53
                                                    have c53b1 : ((bt a0 (ji45)) != 92) = false := bne_eq_false_iff_eq.mpr c53
                                                    clear c53
                                                    have H' := Aside0.mk H
                                                    clear H
                                                    have p48 : 0 ≤ ((ji45) : Int) := of_decide_eq_true (by first | (with_reducible assumption) | assumption)
                                                    have q48 : (ji45) < (a0.size : Int) := of_decide_eq_true (by first | (with_reducible assumption) | assumption)
                                                    have hx48 := bt_at a0 (ji45)
                                                    replace p48 := eq_true p48
                                                    replace q48 := eq_true q48
                                                    have p50 : 0 ≤ ((ji45) : Int) := of_decide_eq_true (by first | (with_reducible assumption) | assumption)
                                                    have q50 : (ji45) < (a0.size : Int) := of_decide_eq_true (by first | (with_reducible assumption) | assumption)
                                                    have hx50 := bt_at a0 (ji45)
                                                    replace p50 := eq_true p50
                                                    replace q50 := eq_true q50
                                                    have p52 : 0 ≤ ((ji45) : Int) := of_decide_eq_true (by first | (with_reducible assumption) | assumption)
                                                    have q52 : (ji45) < (a0.size : Int) := of_decide_eq_true (by first | (with_reducible assumption) | assumption)
                                                    have hx52 := bt_at a0 (ji45)
                                                    replace p52 := eq_true p52
                                                    replace q52 := eq_true q52
                                                    go_wp2
                                                    subst hji45
                                                    go_meet
                                                    case rel => exact ⟨_, (false), (by first | rfl | (simp; done) | (simp [*]; done)), H', ⟨by have := HK1.out; have := HJ1.out; have := HJ8.out; have := HK4.out; have := HJ33.out; first | omega | exact Nat.le_refl _⟩, ⟨by (with_reducible repeat (first | apply Kd.R_alloc | apply Kd.R_drewN | apply Kd.R_drew)); exact HO_4.out⟩, ⟨by (with_reducible repeat (first | apply Kd.R_alloc | apply Kd.R_drewN | apply Kd.R_drew)); exact HO_8.out⟩, ⟨by repeat (first | (with_reducible first | exact HB.out | apply below_alloc | apply pw_below_drewN | apply below_drew1) | exact HB.out)⟩⟩
                                                  · rw [if_neg c53] at H
                                                    have c53b0 : ((bt a0 (ji45)) == 92) = false := beq_eq_false_iff_ne.mpr c53
                                                    have c53b1 : ((bt a0 (ji45)) != 92) = true := bne_iff_ne.mpr c53
                                                    have H' := Aside0.mk H
                                                    clear H
                                                    have p48 : 0 ≤ ((ji45) : Int) := of_decide_eq_true (by first | (with_reducible assumption) | assumption)
                                                    have q48 : (ji45) < (a0.size : Int) := of_decide_eq_true (by first | (with_reducible assumption) | assumption)
                                                    have hx48 := bt_at a0 (ji45)
                                                    replace p48 := eq_true p48
                                                    replace q48 := eq_true q48
                                                    have p50 : 0 ≤ ((ji45) : Int) := of_decide_eq_true (by first | (with_reducible assumption) | assumption)
                                                    have q50 : (ji45) < (a0.size : Int) := of_decide_eq_true (by first | (with_reducible assumption) | assumption)
                                                    have hx50 := bt_at a0 (ji45)
                                                    replace p50 := eq_true p50
                                                    replace q50 := eq_true q50
                                                    have p52 : 0 ≤ ((ji45) : Int) := of_decide_eq_true (by first | (with_reducible assumption) | assumption)
                                                    have q52 : (ji45) < (a0.size : Int) := of_decide_eq_true (by first | (with_reducible assumption) | assumption)
                                                    have hx52 := bt_at a0 (ji45)
                                                    replace p52 := eq_true p52
                                                    replace q52 := eq_true q52
                                                    have p54 : 0 ≤ ((ji45) : Int) := of_decide_eq_true (by first | (with_reducible assumption) | assumption)
                                                    have q54 : (ji45) < (a0.size : Int) := of_decide_eq_true (by first | (with_reducible assumption) | assumption)
                                                    have hx54 := bt_at a0 (ji45)
                                                    replace p54 := eq_true p54
                                                    replace q54 := eq_true q54
                                                    go_wp2
                                                    subst hji45
                                                    go_meet
                                                    case rel => exact ⟨_, (((bt a0 (wrap64 (x5_4 + 1))) != 110)), (by first | rfl | (simp; done) | (simp only [← hwrap64 (x5_4 + 1)] <;> (first | rfl | simp)) | (simp [*]; done)), H', ⟨by have := HK1.out; have := HJ1.out; have := HJ8.out; have := HK4.out; have := HJ33.out; first | omega | exact Nat.le_refl _⟩, ⟨by (with_reducible repeat (first | apply Kd.R_alloc | apply Kd.R_drewN | apply Kd.R_drew)); exact HO_4.out⟩, ⟨by (with_reducible repeat (first | apply Kd.R_alloc | apply Kd.R_drewN | apply Kd.R_drew)); exact HO_8.out⟩, ⟨by repeat (first | (with_reducible first | exact HB.out | apply below_alloc | apply pw_below_drewN | apply below_drew1) | exact HB.out)⟩⟩
                                            · rw [if_neg c47] at H
                                              exact absurd H (by simp)
                                          · rw [if_neg c46] at H
                                            exact absurd H (by simp)
                                      case rest =>
                                        clear HC43
                                        try clear c1
                                        try clear p1
                                        try clear q1
                                        try clear hx1
                                        try clear c2
                                        try clear p2
                                        try clear c3
                                        try clear c3b0
                                        try clear p3
                                        try clear q3
                                        try clear hx3
                                        try clear c4
                                        try clear c4b0
                                        try clear p4
                                        try clear q4
                                        try clear hx4
                                        try clear c5
                                        try clear p5
                                        try clear q5
                                        try clear hx5
                                        try clear p6
                                        try clear c7
                                        try clear c8
                                        try clear c8b0
                                        try clear c8b1
                                        try clear c10
                                        try clear c10b0
                                        try clear c11
                                        try clear c11b0
                                        try clear p12
                                        try clear q12
                                        try clear hx12
                                        try clear c13
                                        try clear c13b0
                                        try clear c13b1
                                        try clear p14
                                        try clear q14
                                        try clear hx14
                                        try clear c15
                                        try clear c16
                                        try clear c16b0
                                        try clear c17
                                        try clear c17b0
                                        try clear p18
                                        try clear q18
                                        try clear hx18
                                        try clear c19
                                        try clear c20
                                        try clear c21
                                        try clear c21b0
                                        try clear c21b1
                                        try clear c22
                                        try clear c22b0
                                        try clear c22b1
                                        try clear c23
                                        try clear c23b0
                                        try clear c23b1
                                        try clear c24
                                        try clear c26
                                        try clear c26b0
                                        try clear c26b1
                                        try clear c27
                                        try clear c27b0
                                        try clear c27b1
                                        try clear c28
                                        try clear c28b0
                                        try clear c28b1
                                        try clear c29
                                        try clear c31
                                        try clear c31b0
                                        try clear c32
                                        try clear c32b0
                                        try clear p33
                                        try clear q33
                                        try clear hx33
                                        try clear c35
                                        try clear c35b0
                                        try clear c36
                                        try clear c36b0
                                        try clear p37
                                        try clear q37
                                        try clear hx37
                                        try clear c38
                                        try clear c39
                                        try clear c39b0
                                        try clear c40
                                        try clear c40b0
                                        try clear p41
                                        try clear q41
                                        try clear hx41
                                        try clear c42
                                        try clear c42b0
                                        try clear c42b1
                                        try clear c44
                                        try clear c44b0
                                        try clear c44b1
                                        try clear c46
                                        try clear c46b0
                                        try clear c47
                                        try clear c47b0
                                        try clear p48
                                        try clear q48
                                        try clear hx48
                                        try clear c49
                                        try clear c49b0
                                        try clear c49b1
                                        try clear p50
                                        try clear q50
                                        try clear hx50
                                        try clear c51
                                        try clear c51b0
                                        try clear c51b1
                                        try clear p52
                                        try clear q52
                                        try clear hx52
                                        try clear c53
                                        try clear c53b0
                                        try clear c53b1
                                        try clear p54
                                        try clear q54
                                        try clear hx54
                                        try clear p1
                                        try clear p12
                                        try clear p14
                                        try clear p18
                                        try clear p2
                                        try clear p3
                                        try clear p33
                                        try clear p37
                                        try clear p41
                                        try clear p48
                                        try clear p5
                                        try clear p50
                                        try clear p52
                                        try clear p54
                                        try clear p6
                                        try clear q1
                                        try clear q12
                                        try clear q14
                                        try clear q18
                                        try clear q3
                                        try clear q33
                                        try clear q37
                                        try clear q41
                                        try clear q48
                                        try clear q5
                                        try clear q50
                                        try clear q52
                                        try clear q54
                                        obtain ⟨kq, x106_42, rfl, HA, HJ42, HO_4, HO_8, HB⟩ := hcut
                                        cases kq with
                                        | zero => exact absurd HA.out (by simp [reveilleref5_Split.j7])
                                        | succ kj42 =>
                                          have H := HA.out
                                          clear HA
                                          simp only [reveilleref5_Split.j7] at H
                                          by_cases c55 : x106_42 = true
                                          · subst c55
                                            have H1 : (some (([] : List ByteArray), 50)) = some (r1, r2) := by rw [if_pos rfl] at H; exact H
                                            clear H
                                            have H := H1
                                            clear H1
                                            simp only [Option.some.injEq, Prod.mk.injEq] at H
                                            obtain ⟨rfl, rfl⟩ := H
                                            go_wp2
                                            go_ret2
                                            exact ⟨_, by first | rfl | (simp [errW_none, errW_some] <;> rfl) | (simp [*, errW_none, errW_some] <;> rfl), by first | exact Kd.R_nil _ _ _ _ _ | exact Kd.N_nil _ _ _ _ _ | exact Kd.V_nil _ _ _ _ _ | exact Kd.Q_nil _ _ _ _ _ | exact Kd.S_nil _ _ _ _ _, by repeat (first | (with_reducible first | exact HB.out | apply below_alloc | apply pw_below_drewN | apply below_drew1) | exact HB.out)⟩
                                          · replace c55 := Bool.eq_false_iff.mpr c55
                                            subst c55
                                            have H1 : (if 0 ≤ (wrap64 (x5_4 + 1)) then (if (wrap64 (x5_4 + 1)) < (a0.size : Int) then (if (bt a0 (wrap64 (x5_4 + 1))) = 110 then (if x8_4.length < 140737488355328 then (reveilleref5_Split.l3 kj42 a0 x4_1 (wrap64 ((wrap64 (x5_4 + 1)) + 1)) (bt a0 x5_1) (x8_4 ++ [10])) else (none)) else (if x8_4.length < 140737488355328 then (reveilleref5_Split.l3 kj42 a0 x4_1 (wrap64 ((wrap64 (x5_4 + 1)) + 1)) (bt a0 x5_1) (x8_4 ++ [bt a0 (wrap64 (x5_4 + 1))])) else (none))) else (none)) else (none)) = some (r1, r2) := by rw [if_neg (show ¬ (false = true) by decide)] at H; exact H
                                            clear H
                                            have H := H1
                                            clear H1
                                            obtain ⟨ji56, hji56⟩ : ∃ j_ : Int, (wrap64 (x5_4 + 1)) = j_ := ⟨_, rfl⟩
                                            replace H : (if 0 ≤ (ji56) then (if (ji56) < (a0.size : Int) then (if (bt a0 (ji56)) = 110 then (if x8_4.length < 140737488355328 then (reveilleref5_Split.l3 kj42 a0 x4_1 (wrap64 ((ji56) + 1)) (bt a0 x5_1) (x8_4 ++ [10])) else (none)) else (if x8_4.length < 140737488355328 then (reveilleref5_Split.l3 kj42 a0 x4_1 (wrap64 ((ji56) + 1)) (bt a0 x5_1) (x8_4 ++ [bt a0 (ji56)])) else (none))) else (none)) else (none)) = some (r1, r2) := by first | (rw [hji56] at H; exact H) | (simp only [hji56] at H ⊢; exact H)
                                            have hji56w : (IntKind.i64.wrap (x5_4 + 1)) = ji56 := (i64_w _).trans hji56
                                            by_cases c57 : 0 ≤ (ji56)
                                            · rw [if_pos c57] at H
                                              have c57b0 : decide (0 ≤ (ji56)) = true := decide_eq_true c57
                                              clear c57
                                              by_cases c58 : (ji56) < (a0.size : Int)
                                              · rw [if_pos c58] at H
                                                have c58b0 : decide ((ji56) < (a0.size : Int)) = true := decide_eq_true c58
                                                clear c58
                                                by_cases c60 : (bt a0 (ji56)) = 110
                                                · rw [if_pos c60] at H
                                                  have c60b0 : ((bt a0 (ji56)) == 110) = true := beq_iff_eq.mpr c60
                                                  have c60b1 : ((bt a0 (ji56)) != 110) = false := bne_eq_false_iff_eq.mpr c60
                                                  clear c60
                                                  by_cases c61 : x8_4.length < 140737488355328
                                                  · rw [if_pos c61] at H
                                                    have LMc61 := Aside0.mk c61
                                                    clear c61
                                                    obtain ⟨y162, hy162⟩ : ∃ y_ : List Int, y_ = (x8_4 ++ [10]) := ⟨_, rfl⟩
                                                    replace H : (reveilleref5_Split.l3 kj42 a0 x4_1 (wrap64 ((ji56) + 1)) (bt a0 x5_1) y162) = some (r1, r2) := by first | (rw [hy162]; with_reducible exact H) | (have H2_ := (Option.bind_some _ _).symm.trans H; rw [hy162]; with_reducible exact H2_) | (have H2_ := (Option.bind_some _ _).symm.trans H; with_reducible exact H2_) | with_reducible exact H | (rw [hy162]; exact H) | exact H
                                                    have Ny162 := Aside0.mk hy162
                                                    clear hy162
                                                    have H' := Aside0.mk H
                                                    clear H
                                                    have p59 : 0 ≤ ((ji56) : Int) := of_decide_eq_true (by first | (with_reducible assumption) | assumption)
                                                    have q59 : (ji56) < (a0.size : Int) := of_decide_eq_true (by first | (with_reducible assumption) | assumption)
                                                    have hx59 := bt_at a0 (ji56)
                                                    replace p59 := eq_true p59
                                                    replace q59 := eq_true q59
                                                    go_wp2_with (first | ((with_reducible refine gate_builtin (b := .append) (xs := #[.tmp 111, .tmp 112]) rfl ?_); at_builtin; refine Kd.R_append (Kd.int .u8) (w0 := w) w.heap.size rfl (.tmp 111) (.tmp 112) 22 5 (.int .u8 0) 1 rfl Tryd.underlying22 info5 rfl (by decide) (by omega) u8 x8_4 10 [.int .u8 10] (fun _ => True) (fun _ => False) rfl rfl ?aP (fun _ hk => hk.elim) ?aF ?aO ?aB ?aS ?aL ?_; (case aP => exact rfl); (case aB => exact (by repeat (first | (with_reducible first | exact HB.out | apply below_alloc | apply pw_below_drewN | apply below_drew1) | exact HB.out))); (case aF => exact (fun _ _ => trivial)); (case aO => exact (by (with_reducible repeat (first | apply Kd.R_alloc | apply Kd.R_drewN | apply Kd.R_drew)); exact HO_8.out)); (case aS => exact (below_size (by repeat (first | (with_reducible first | exact HB.out | apply below_alloc | apply pw_below_drewN | apply below_drew1) | exact HB.out)))); (case aL => have := LMc61.out; omega); intro v163 w62 ho hb hg hat; rw [← Ny162.out] at ho; have n0_ := Aside0.mk (Kd.R_over' (by (with_reducible repeat (first | apply Kd.R_alloc | apply Kd.R_drewN | apply Kd.R_drew)); exact HO_4.out) (Kd.R_typed (by (with_reducible repeat (first | apply Kd.R_alloc | apply Kd.R_drewN | apply Kd.R_drew)); exact HO_8.out)) (by decide) hg); have n1_ := Aside0.mk (hb); have n2_ := Aside0.mk (ho); clear HO_4; clear HB; clear HO_8; have HO_4 := n0_; have HB := n1_; have HO164 := n2_; clear n0_ n1_ n2_; clear ho hb hg hat))
                                                    go_roundg kj42
                                                    case measure => have := HK1.out; have := HJ1.out; have := HJ8.out; have := HK4.out; have := HJ33.out; have := HJ42.out; omega
                                                    case rel => exact ⟨(wrap64 ((ji56) + 1)), (y162), (by first | rfl | (simp; done) | (simp only [← hji56] <;> (first | rfl | simp)) | (simp [*]; done)), H', ⟨by have := HK1.out; have := HJ1.out; have := HJ8.out; have := HK4.out; have := HJ33.out; have := HJ42.out; omega⟩, ⟨by (with_reducible repeat (first | apply Kd.R_alloc | apply Kd.R_drewN | apply Kd.R_drew)); exact HO_4.out⟩, ⟨by (with_reducible repeat (first | apply Kd.R_alloc | apply Kd.R_drewN | apply Kd.R_drew)); exact HO164.out⟩, ⟨by repeat (first | (with_reducible first | exact HB.out | apply below_alloc | apply pw_below_drewN | apply below_drew1) | exact HB.out)⟩⟩
                                                  · rw [if_neg c61] at H
                                                    exact absurd H (by simp)
                                                · rw [if_neg c60] at H
                                                  have c60b0 : ((bt a0 (ji56)) == 110) = false := beq_eq_false_iff_ne.mpr c60
                                                  have c60b1 : ((bt a0 (ji56)) != 110) = true := bne_iff_ne.mpr c60
                                                  by_cases c64 : x8_4.length < 140737488355328
                                                  · rw [if_pos c64] at H
                                                    have LMc64 := Aside0.mk c64
                                                    clear c64
                                                    obtain ⟨y165, hy165⟩ : ∃ y_ : List Int, y_ = (x8_4 ++ [bt a0 (ji56)]) := ⟨_, rfl⟩
                                                    replace H : (reveilleref5_Split.l3 kj42 a0 x4_1 (wrap64 ((ji56) + 1)) (bt a0 x5_1) y165) = some (r1, r2) := by first | (rw [hy165]; with_reducible exact H) | (have H2_ := (Option.bind_some _ _).symm.trans H; rw [hy165]; with_reducible exact H2_) | (have H2_ := (Option.bind_some _ _).symm.trans H; with_reducible exact H2_) | with_reducible exact H | (rw [hy165]; exact H) | exact H
                                                    have Ny165 := Aside0.mk hy165
                                                    clear hy165
                                                    have H' := Aside0.mk H
                                                    clear H
                                                    have p59 : 0 ≤ ((ji56) : Int) := of_decide_eq_true (by first | (with_reducible assumption) | assumption)
                                                    have q59 : (ji56) < (a0.size : Int) := of_decide_eq_true (by first | (with_reducible assumption) | assumption)
                                                    have hx59 := bt_at a0 (ji56)
                                                    replace p59 := eq_true p59
                                                    replace q59 := eq_true q59
                                                    have p63 : 0 ≤ ((ji56) : Int) := of_decide_eq_true (by first | (with_reducible assumption) | assumption)
                                                    have q63 : (ji56) < (a0.size : Int) := of_decide_eq_true (by first | (with_reducible assumption) | assumption)
                                                    have hx63 := bt_at a0 (ji56)
                                                    replace p63 := eq_true p63
                                                    replace q63 := eq_true q63
                                                    go_wp2_with (first | ((with_reducible refine gate_builtin (b := .append) (xs := #[.tmp 114, .tmp 118]) rfl ?_); at_builtin; refine Kd.R_append (Kd.int .u8) (w0 := w) w.heap.size rfl (.tmp 114) (.tmp 118) 22 5 (.int .u8 0) 1 rfl Tryd.underlying22 info5 rfl (by decide) (by omega) u8 x8_4 (bt a0 (ji56)) [.int .u8 (bt a0 (ji56))] (fun _ => True) (fun _ => False) rfl rfl ?aP (fun _ hk => hk.elim) ?aF ?aO ?aB ?aS ?aL ?_; (case aP => exact rfl); (case aB => exact (by repeat (first | (with_reducible first | exact HB.out | apply below_alloc | apply pw_below_drewN | apply below_drew1) | exact HB.out))); (case aF => exact (fun _ _ => trivial)); (case aO => exact (by (with_reducible repeat (first | apply Kd.R_alloc | apply Kd.R_drewN | apply Kd.R_drew)); exact HO_8.out)); (case aS => exact (below_size (by repeat (first | (with_reducible first | exact HB.out | apply below_alloc | apply pw_below_drewN | apply below_drew1) | exact HB.out)))); (case aL => have := LMc64.out; omega); intro v166 w65 ho hb hg hat; rw [← Ny165.out] at ho; have n0_ := Aside0.mk (Kd.R_over' (by (with_reducible repeat (first | apply Kd.R_alloc | apply Kd.R_drewN | apply Kd.R_drew)); exact HO_4.out) (Kd.R_typed (by (with_reducible repeat (first | apply Kd.R_alloc | apply Kd.R_drewN | apply Kd.R_drew)); exact HO_8.out)) (by decide) hg); have n1_ := Aside0.mk (hb); have n2_ := Aside0.mk (ho); clear HO_4; clear HB; clear HO_8; have HO_4 := n0_; have HB := n1_; have HO167 := n2_; clear n0_ n1_ n2_; clear ho hb hg hat))
                                                    go_roundg kj42
                                                    case measure => have := HK1.out; have := HJ1.out; have := HJ8.out; have := HK4.out; have := HJ33.out; have := HJ42.out; omega
                                                    case rel => exact ⟨(wrap64 ((ji56) + 1)), (y165), (by first | rfl | (simp; done) | (simp only [← hji56] <;> (first | rfl | simp)) | (simp [*]; done)), H', ⟨by have := HK1.out; have := HJ1.out; have := HJ8.out; have := HK4.out; have := HJ33.out; have := HJ42.out; omega⟩, ⟨by (with_reducible repeat (first | apply Kd.R_alloc | apply Kd.R_drewN | apply Kd.R_drew)); exact HO_4.out⟩, ⟨by (with_reducible repeat (first | apply Kd.R_alloc | apply Kd.R_drewN | apply Kd.R_drew)); exact HO167.out⟩, ⟨by repeat (first | (with_reducible first | exact HB.out | apply below_alloc | apply pw_below_drewN | apply below_drew1) | exact HB.out)⟩⟩
                                                  · rw [if_neg c64] at H
                                                    exact absurd H (by simp)
                                              · rw [if_neg c58] at H
                                                exact absurd H (by simp)
                                            · rw [if_neg c57] at H
                                              exact absurd H (by simp)
                                    · rw [if_neg c42] at H
                                      have c42b0 : ((bt a0 x5_4) == 92) = false := beq_eq_false_iff_ne.mpr c42
                                      have c42b1 : ((bt a0 x5_4) != 92) = true := bne_iff_ne.mpr c42
                                      by_cases c67 : x8_4.length < 140737488355328
                                      · rw [if_pos c67] at H
                                        have LMc67 := Aside0.mk c67
                                        clear c67
                                        obtain ⟨y168, hy168⟩ : ∃ y_ : List Int, y_ = (x8_4 ++ [bt a0 x5_4]) := ⟨_, rfl⟩
                                        replace H : (reveilleref5_Split.l3 kj33 a0 x4_1 (wrap64 (x5_4 + 1)) (bt a0 x5_1) y168) = some (r1, r2) := by first | (rw [hy168]; with_reducible exact H) | (have H2_ := (Option.bind_some _ _).symm.trans H; rw [hy168]; with_reducible exact H2_) | (have H2_ := (Option.bind_some _ _).symm.trans H; with_reducible exact H2_) | with_reducible exact H | (rw [hy168]; exact H) | exact H
                                        have Ny168 := Aside0.mk hy168
                                        clear hy168
                                        have H' := Aside0.mk H
                                        clear H
                                        have p41 : 0 ≤ (x5_4 : Int) := of_decide_eq_true (by first | (with_reducible assumption) | assumption)
                                        have q41 : x5_4 < (a0.size : Int) := of_decide_eq_true (by first | (with_reducible assumption) | assumption)
                                        have hx41 := bt_at a0 x5_4
                                        replace p41 := eq_true p41
                                        replace q41 := eq_true q41
                                        have p66 : 0 ≤ (x5_4 : Int) := of_decide_eq_true (by first | (with_reducible assumption) | assumption)
                                        have q66 : x5_4 < (a0.size : Int) := of_decide_eq_true (by first | (with_reducible assumption) | assumption)
                                        have hx66 := bt_at a0 x5_4
                                        replace p66 := eq_true p66
                                        replace q66 := eq_true q66
                                        go_wp2_with (first | ((with_reducible refine gate_builtin (b := .append) (xs := #[.tmp 122, .tmp 126]) rfl ?_); at_builtin; refine Kd.R_append (Kd.int .u8) (w0 := w) w.heap.size rfl (.tmp 122) (.tmp 126) 22 5 (.int .u8 0) 1 rfl Tryd.underlying22 info5 rfl (by decide) (by omega) u8 x8_4 (bt a0 x5_4) [.int .u8 (bt a0 x5_4)] (fun _ => True) (fun _ => False) rfl rfl ?aP (fun _ hk => hk.elim) ?aF ?aO ?aB ?aS ?aL ?_; (case aP => exact rfl); (case aB => exact (by repeat (first | (with_reducible first | exact HB.out | apply below_alloc | apply pw_below_drewN | apply below_drew1) | exact HB.out))); (case aF => exact (fun _ _ => trivial)); (case aO => exact (by (with_reducible repeat (first | apply Kd.R_alloc | apply Kd.R_drewN | apply Kd.R_drew)); exact HO_8.out)); (case aS => exact (below_size (by repeat (first | (with_reducible first | exact HB.out | apply below_alloc | apply pw_below_drewN | apply below_drew1) | exact HB.out)))); (case aL => have := LMc67.out; omega); intro v169 w68 ho hb hg hat; rw [← Ny168.out] at ho; have n0_ := Aside0.mk (Kd.R_over' (by (with_reducible repeat (first | apply Kd.R_alloc | apply Kd.R_drewN | apply Kd.R_drew)); exact HO_4.out) (Kd.R_typed (by (with_reducible repeat (first | apply Kd.R_alloc | apply Kd.R_drewN | apply Kd.R_drew)); exact HO_8.out)) (by decide) hg); have n1_ := Aside0.mk (hb); have n2_ := Aside0.mk (ho); clear HO_4; clear HB; clear HO_8; have HO_4 := n0_; have HB := n1_; have HO170 := n2_; clear n0_ n1_ n2_; clear ho hb hg hat))
                                        go_roundg kj33
                                        case measure => have := HK1.out; have := HJ1.out; have := HJ8.out; have := HK4.out; have := HJ33.out; omega
                                        case rel => exact ⟨(wrap64 (x5_4 + 1)), (y168), (by first | rfl | (simp; done) | (simp [*]; done)), H', ⟨by have := HK1.out; have := HJ1.out; have := HJ8.out; have := HK4.out; have := HJ33.out; omega⟩, ⟨by (with_reducible repeat (first | apply Kd.R_alloc | apply Kd.R_drewN | apply Kd.R_drew)); exact HO_4.out⟩, ⟨by (with_reducible repeat (first | apply Kd.R_alloc | apply Kd.R_drewN | apply Kd.R_drew)); exact HO170.out⟩, ⟨by repeat (first | (with_reducible first | exact HB.out | apply below_alloc | apply pw_below_drewN | apply below_drew1) | exact HB.out)⟩⟩
                                      · rw [if_neg c67] at H
                                        exact absurd H (by simp)
                                  · rw [if_neg c40] at H
                                    exact absurd H (by simp)
                                · rw [if_neg c39] at H
                                  exact absurd H (by simp)
                              · replace c38 := Bool.eq_false_iff.mpr c38
                                subst c38
                                have H1 : (if x5_4 = (a0.size : Int) then (some (([] : List ByteArray), 50)) else (if (wrap64 (x5_4 + 1)) < (a0.size : Int) then (if 0 ≤ (wrap64 (x5_4 + 1)) then ((reveilleref5_Blank.f (bt a0 (wrap64 (x5_4 + 1)))).bind fun t171 => (if t171 = true then (if x4_1.length < 8796093022208 then (reveilleref5_Split.l0 kj33 a0 (x4_1 ++ [strOfNums x8_4]) (wrap64 (x5_4 + 1))) else (none)) else (some (([] : List ByteArray), 50)))) else (none)) else (if x4_1.length < 8796093022208 then (reveilleref5_Split.l0 kj33 a0 (x4_1 ++ [strOfNums x8_4]) (wrap64 (x5_4 + 1))) else (none)))) = some (r1, r2) := by rw [if_neg (show ¬ (false = true) by decide)] at H; exact H
                                clear H
                                have H := H1
                                clear H1
                                by_cases c69 : x5_4 = (a0.size : Int)
                                · rw [if_pos c69] at H
                                  have c69b0 : (x5_4 == (a0.size : Int)) = true := beq_iff_eq.mpr c69
                                  have c69b1 : (x5_4 != (a0.size : Int)) = false := bne_eq_false_iff_eq.mpr c69
                                  clear c69
                                  simp only [Option.some.injEq, Prod.mk.injEq] at H
                                  obtain ⟨rfl, rfl⟩ := H
                                  go_wp2
                                  go_ret2
                                  exact ⟨_, by first | rfl | (simp [errW_none, errW_some] <;> rfl) | (simp [*, errW_none, errW_some] <;> rfl), by first | exact Kd.R_nil _ _ _ _ _ | exact Kd.N_nil _ _ _ _ _ | exact Kd.V_nil _ _ _ _ _ | exact Kd.Q_nil _ _ _ _ _ | exact Kd.S_nil _ _ _ _ _, by repeat (first | (with_reducible first | exact HB.out | apply below_alloc | apply pw_below_drewN | apply below_drew1) | exact HB.out)⟩
                                · rw [if_neg c69] at H
                                  have c69b0 : (x5_4 == (a0.size : Int)) = false := beq_eq_false_iff_ne.mpr c69
                                  have c69b1 : (x5_4 != (a0.size : Int)) = true := bne_iff_ne.mpr c69
                                  by_cases c70 : (wrap64 (x5_4 + 1)) < (a0.size : Int)
                                  · rw [if_pos c70] at H
                                    have c70b0 : decide ((wrap64 (x5_4 + 1)) < (a0.size : Int)) = true := decide_eq_true c70
                                    clear c70
                                    obtain ⟨ji71, hji71⟩ : ∃ j_ : Int, (wrap64 (x5_4 + 1)) = j_ := ⟨_, rfl⟩
                                    replace H : (if 0 ≤ (ji71) then ((reveilleref5_Blank.f (bt a0 (ji71))).bind fun t171 => (if t171 = true then (if x4_1.length < 8796093022208 then (reveilleref5_Split.l0 kj33 a0 (x4_1 ++ [strOfNums x8_4]) ji71) else (none)) else (some (([] : List ByteArray), 50)))) else (none)) = some (r1, r2) := by first | (rw [hji71] at H; exact H) | (simp only [hji71] at H ⊢; exact H)
                                    (try rw [hji71] at c70b0)
                                    have hji71w : (IntKind.i64.wrap (x5_4 + 1)) = ji71 := (i64_w _).trans hji71
                                    by_cases c72 : 0 ≤ (ji71)
                                    · rw [if_pos c72] at H
                                      have c72b0 : decide (0 ≤ (ji71)) = true := decide_eq_true c72
                                      clear c72
                                      replace H := Option.bind_eq_some_iff.mp H
                                      obtain ⟨t171, A740, H⟩ := H
                                      replace H : (if t171 = true then (if x4_1.length < 8796093022208 then (reveilleref5_Split.l0 kj33 a0 (x4_1 ++ [strOfNums x8_4]) ji71) else (none)) else (some (([] : List ByteArray), 50))) = some (r1, r2) := H
                                      have A74 := Aside0.mk A740
                                      clear A740
                                      by_cases c75 : t171 = true
                                      · subst c75
                                        have H1 : (if x4_1.length < 8796093022208 then (reveilleref5_Split.l0 kj33 a0 (x4_1 ++ [strOfNums x8_4]) ji71) else (none)) = some (r1, r2) := by rw [if_pos rfl] at H; exact H
                                        clear H
                                        have H := H1
                                        clear H1
                                        by_cases c76 : x4_1.length < 8796093022208
                                        · rw [if_pos c76] at H
                                          have LMc76 := Aside0.mk c76
                                          clear c76
                                          obtain ⟨y172, hy172⟩ : ∃ y_ : List ByteArray, y_ = (x4_1 ++ [strOfNums x8_4]) := ⟨_, rfl⟩
                                          replace H : (reveilleref5_Split.l0 kj33 a0 y172 ji71) = some (r1, r2) := by first | (rw [hy172]; with_reducible exact H) | (have H2_ := (Option.bind_some _ _).symm.trans H; rw [hy172]; with_reducible exact H2_) | (have H2_ := (Option.bind_some _ _).symm.trans H; with_reducible exact H2_) | with_reducible exact H | (rw [hy172]; exact H) | exact H
                                          have Ny172 := Aside0.mk hy172
                                          clear hy172
                                          have H' := Aside0.mk H
                                          clear H
                                          have p73 : 0 ≤ ((ji71) : Int) := of_decide_eq_true (by first | (with_reducible assumption) | assumption)
                                          have q73 : (ji71) < (a0.size : Int) := of_decide_eq_true (by first | (with_reducible assumption) | assumption)
                                          have hx73 := bt_at a0 (ji71)
                                          replace p73 := eq_true p73
                                          replace q73 := eq_true q73
                                          go_wp2_with (first | (go_at_call 31; (with_reducible refine (reveilleref5_Blank.calls (bt a0 (ji71)) true _ A74.out).mono ?_); rintro e w' ⟨rfl, ⟨nd, rfl⟩⟩; have hcv77 := own_string (P := Tryd.prog) Tryd.underlying22 Tryd.underlying5 Tryd.underlying9 (Kd.own_of_R (Kd.R_drewN HO_8.out nd))) | ((with_reducible refine gate_builtin (b := .append) (xs := #[.tmp 147, .tmp 150]) rfl ?_); at_builtin; refine Kd.R_append Kd.string (w0 := w) w.heap.size rfl (.tmp 147) (.tmp 150) 35 9 (.string ⟨#[]⟩) 16 rfl Tryd.underlying35 info9 rfl (by decide) (by omega) u4 x4_1 (strOfNums x8_4) [.string (strOfNums x8_4)] (fun _ => True) (fun _ => False) rfl rfl ?aP (fun _ hk => hk.elim) ?aF ?aO ?aB ?aS ?aL ?_; (case aP => exact rfl); (case aB => exact (by repeat (first | (with_reducible first | exact HB.out | apply below_alloc | apply pw_below_drewN | apply below_drew1) | exact HB.out))); (case aF => exact (fun _ _ => trivial)); (case aO => exact (by (with_reducible repeat (first | apply Kd.R_alloc | apply Kd.R_drewN | apply Kd.R_drew)); exact HO_4.out)); (case aS => exact (below_size (by repeat (first | (with_reducible first | exact HB.out | apply below_alloc | apply pw_below_drewN | apply below_drew1) | exact HB.out)))); (case aL => have := LMc76.out; omega); intro v173 w78 ho hb hg hat; rw [← Ny172.out] at ho; have n0_ := Aside0.mk (Kd.R_over' (by (with_reducible repeat (first | apply Kd.R_alloc | apply Kd.R_drewN | apply Kd.R_drew)); exact HO_8.out) (Kd.R_typed (by (with_reducible repeat (first | apply Kd.R_alloc | apply Kd.R_drewN | apply Kd.R_drew)); exact HO_4.out)) (by decide) hg); have n1_ := Aside0.mk (hb); have n2_ := Aside0.mk (ho); clear HO_8; clear HB; clear HO_4; have HO_8 := n0_; have HB := n1_; have HO174 := n2_; clear n0_ n1_ n2_; clear ho hb hg hat))
                                          go_roundg kj33
                                          case measure => have := HK1.out; have := HJ1.out; have := HJ8.out; have := HK4.out; have := HJ33.out; omega
                                          case rel => exact ⟨(y172), (ji71), (by first | rfl | (simp; done) | (simp only [← hji71] <;> (first | rfl | simp)) | (simp [*]; done)), H', ⟨by have := HK1.out; have := HJ1.out; have := HJ8.out; have := HK4.out; have := HJ33.out; omega⟩, ⟨by (with_reducible repeat (first | apply Kd.R_alloc | apply Kd.R_drewN | apply Kd.R_drew)); exact HO174.out⟩, ⟨by repeat (first | (with_reducible first | exact HB.out | apply below_alloc | apply pw_below_drewN | apply below_drew1) | exact HB.out)⟩⟩
                                        · rw [if_neg c76] at H
                                          exact absurd H (by simp)
                                      · replace c75 := Bool.eq_false_iff.mpr c75
                                        subst c75
                                        have H1 : (some (([] : List ByteArray), 50)) = some (r1, r2) := by rw [if_neg (show ¬ (false = true) by decide)] at H; exact H
                                        clear H
                                        have H := H1
                                        clear H1
                                        simp only [Option.some.injEq, Prod.mk.injEq] at H
                                        obtain ⟨rfl, rfl⟩ := H
                                        have p73 : 0 ≤ ((ji71) : Int) := of_decide_eq_true (by first | (with_reducible assumption) | assumption)
                                        have q73 : (ji71) < (a0.size : Int) := of_decide_eq_true (by first | (with_reducible assumption) | assumption)
                                        have hx73 := bt_at a0 (ji71)
                                        replace p73 := eq_true p73
                                        replace q73 := eq_true q73
                                        go_wp2_with (first | (go_at_call 31; (with_reducible refine (reveilleref5_Blank.calls (bt a0 (ji71)) false _ A74.out).mono ?_); rintro e w' ⟨rfl, ⟨nd, rfl⟩⟩))
                                        go_ret2
                                        exact ⟨_, by first | rfl | (simp [errW_none, errW_some] <;> rfl) | (simp only [← hji71]; first | rfl | (simp [errW_none, errW_some] <;> rfl)) | (simp [*, errW_none, errW_some] <;> rfl), by first | exact Kd.R_nil _ _ _ _ _ | exact Kd.N_nil _ _ _ _ _ | exact Kd.V_nil _ _ _ _ _ | exact Kd.Q_nil _ _ _ _ _ | exact Kd.S_nil _ _ _ _ _, by repeat (first | (with_reducible first | exact HB.out | apply below_alloc | apply pw_below_drewN | apply below_drew1) | exact HB.out)⟩
                                    · rw [if_neg c72] at H
                                      exact absurd H (by simp)
                                  · rw [if_neg c70] at H
                                    have c70b0 : decide ((wrap64 (x5_4 + 1)) < (a0.size : Int)) = false := decide_eq_false c70
                                    clear c70
                                    by_cases c79 : x4_1.length < 8796093022208
                                    · rw [if_pos c79] at H
                                      have LMc79 := Aside0.mk c79
                                      clear c79
                                      obtain ⟨y175, hy175⟩ : ∃ y_ : List ByteArray, y_ = (x4_1 ++ [strOfNums x8_4]) := ⟨_, rfl⟩
                                      replace H : (reveilleref5_Split.l0 kj33 a0 y175 (wrap64 (x5_4 + 1))) = some (r1, r2) := by first | (rw [hy175]; with_reducible exact H) | (have H2_ := (Option.bind_some _ _).symm.trans H; rw [hy175]; with_reducible exact H2_) | (have H2_ := (Option.bind_some _ _).symm.trans H; with_reducible exact H2_) | with_reducible exact H | (rw [hy175]; exact H) | exact H
                                      have Ny175 := Aside0.mk hy175
                                      clear hy175
                                      have H' := Aside0.mk H
                                      clear H
                                      have hcv80 := own_string (P := Tryd.prog) Tryd.underlying22 Tryd.underlying5 Tryd.underlying9 (Kd.own_of_R HO_8.out)
                                      go_wp2_with (first | ((with_reducible refine gate_builtin (b := .append) (xs := #[.tmp 147, .tmp 150]) rfl ?_); at_builtin; refine Kd.R_append Kd.string (w0 := w) w.heap.size rfl (.tmp 147) (.tmp 150) 35 9 (.string ⟨#[]⟩) 16 rfl Tryd.underlying35 info9 rfl (by decide) (by omega) u4 x4_1 (strOfNums x8_4) [.string (strOfNums x8_4)] (fun _ => True) (fun _ => False) rfl rfl ?aP (fun _ hk => hk.elim) ?aF ?aO ?aB ?aS ?aL ?_; (case aP => exact rfl); (case aB => exact (by repeat (first | (with_reducible first | exact HB.out | apply below_alloc | apply pw_below_drewN | apply below_drew1) | exact HB.out))); (case aF => exact (fun _ _ => trivial)); (case aO => exact (by (with_reducible repeat (first | apply Kd.R_alloc | apply Kd.R_drewN | apply Kd.R_drew)); exact HO_4.out)); (case aS => exact (below_size (by repeat (first | (with_reducible first | exact HB.out | apply below_alloc | apply pw_below_drewN | apply below_drew1) | exact HB.out)))); (case aL => have := LMc79.out; omega); intro v176 w81 ho hb hg hat; rw [← Ny175.out] at ho; have n0_ := Aside0.mk (Kd.R_over' (by (with_reducible repeat (first | apply Kd.R_alloc | apply Kd.R_drewN | apply Kd.R_drew)); exact HO_8.out) (Kd.R_typed (by (with_reducible repeat (first | apply Kd.R_alloc | apply Kd.R_drewN | apply Kd.R_drew)); exact HO_4.out)) (by decide) hg); have n1_ := Aside0.mk (hb); have n2_ := Aside0.mk (ho); clear HO_8; clear HB; clear HO_4; have HO_8 := n0_; have HB := n1_; have HO177 := n2_; clear n0_ n1_ n2_; clear ho hb hg hat))
                                      go_roundg kj33
                                      case measure => have := HK1.out; have := HJ1.out; have := HJ8.out; have := HK4.out; have := HJ33.out; omega
                                      case rel => exact ⟨(y175), (wrap64 (x5_4 + 1)), (by first | rfl | (simp; done) | (simp [*]; done)), H', ⟨by have := HK1.out; have := HJ1.out; have := HJ8.out; have := HK4.out; have := HJ33.out; omega⟩, ⟨by (with_reducible repeat (first | apply Kd.R_alloc | apply Kd.R_drewN | apply Kd.R_drew)); exact HO177.out⟩, ⟨by repeat (first | (with_reducible first | exact HB.out | apply below_alloc | apply pw_below_drewN | apply below_drew1) | exact HB.out)⟩⟩
                                    · rw [if_neg c79] at H
                                      exact absurd H (by simp)
                    · rw [if_neg c32] at H
                      exact absurd H (by simp)
                  · rw [if_neg c31] at H
                    exact absurd H (by simp)


end Go.Proofs.YtaihipdebmcmhaaDoor.Splits
