/- Out of the program's functions that the law reaches, part 0: what each computes, and that the machine computes it. -/
import Derived.Test.YtbigbjfppaenfaaDoorLinesM
import Derived.Test.YtbigbjfppaenfaaDoorWEqStruct
namespace Go.Proofs.YtbigbjfppaenfaaDoor.Lines
open Go.RowKit Go.Proofs.YtbigbjfppaenfaaDoorW.PrintWords Go.Proofs.YtbigbjfppaenfaaDoorW.PrintLast
set_option linter.unusedVariables false
set_option linter.unusedSimpArgs false
theorem info9 : (Tryd.prog.info? 9).map (fun i => (i.zero, i.size, i.bytes)) = some (some (.string ⟨#[]⟩), 1, 16) := by kernel_rfl
/-! ### reveilleref5_raw: function 35 -/
def reveilleref5_raw.l0 : Nat → ByteArray → List ByteArray → Int → Int → Option (List ByteArray)
 | 0, _, _, _, _ => none
 | k + 1, x0, x3, x4, x5 => if x5 < (x0.size : Int) then (if 0 ≤ x5 then (if (bt x0 x5) = 10 then (if 0 ≤ x4 then (if x4 ≤ x5 then (if x5 ≤ (x0.size : Int) then (if x3.length < 8796093022208 then (reveilleref5_raw.l0 k x0 (x3 ++ [x0.extract (x4 : Int).toNat (x5 : Int).toNat]) (wrap64 (x5 + 1)) (wrap64 (x5 + 1))) else (none)) else (none)) else (none)) else (none)) else (reveilleref5_raw.l0 k x0 x3 x4 (wrap64 (x5 + 1)))) else (none)) else (if 0 ≤ x4 then (if x4 ≤ (x0.size : Int) then (if x3.length < 8796093022208 then (some (x3 ++ [x0.extract (x4 : Int).toNat x0.size])) else (none)) else (none)) else (none))
def reveilleref5_raw.f (k : Nat) (a0 : ByteArray) : Option (List ByteArray) := reveilleref5_raw.l0 k a0 ([] : List ByteArray) 0 0
theorem reveilleref5_raw.mono_l : ∀ k, (∀ y0 y1 y2 y3, LeO (reveilleref5_raw.l0 k y0 y1 y2 y3) (reveilleref5_raw.l0 (k + 1) y0 y1 y2 y3))
 | 0 => fun _ _ _ _ r h => by simp [reveilleref5_raw.l0] at h
 | k + 1 => by
  have ih0 := reveilleref5_raw.mono_l k
  ·intro y0 y1 y2 y3
   unfold reveilleref5_raw.l0
   repeat' first
   | (with_reducible exact ih0 _ _ _ _)
   | (with_reducible exact LeO.refl _)
   | (with_reducible exact LeO.none _)
   | (with_reducible refine LeO.ite ?_ ?_)
   | (with_reducible refine LeO.bind ?_ (fun _ => ?_))
   | exact ih0 _ _ _ _
   | exact LeO.none _
   | refine LeO.ite ?_ ?_
   | refine LeO.bind ?_ (fun _ => ?_)
theorem reveilleref5_raw.mono : ∀ a0 k, LeO (reveilleref5_raw.f k a0) (reveilleref5_raw.f (k + 1) a0) := by
 intro a0 k
 have ih0 := reveilleref5_raw.mono_l k
 unfold reveilleref5_raw.f
 repeat' first
   | (with_reducible exact ih0 _ _ _ _)
   | (with_reducible exact LeO.refl _)
   | (with_reducible exact LeO.none _)
   | (with_reducible refine LeO.ite ?_ ?_)
   | (with_reducible refine LeO.bind ?_ (fun _ => ?_))
   | exact ih0 _ _ _ _
   | exact LeO.none _
   | refine LeO.ite ?_ ?_
   | refine LeO.bind ?_ (fun _ => ?_)
set_option maxHeartbeats 8000000 in
set_option maxRecDepth 100000 in
theorem reveilleref5_raw.calls (k : Nat) (a0 : ByteArray) (r : List ByteArray) (w : World) (h : reveilleref5_raw.f k a0 = some r) :
  Calls Tryd.prog 35 #[.string a0] w fun e w' => ∃ v0_ : Value, e = .returned (v0_) ∧ Kd.R Kd.string 9 w' w.heap.size (fun _ => True) v0_ r ∧ Below w.heap.size w w' := by
 have HB := Aside0.mk (Below.refl w.heap.size w)
 have H : (reveilleref5_raw.l0 k a0 ([] : List ByteArray) 0 0) = some r := h
 clear h
 have H' := Aside0.mk H
 clear H
 go_enter Tryd.func35, Tryd.ntmps35
 go_wp2
 go_loopg [3, 4, 5] k (fun kq v3 v4 v5 w' => ∃ (x3_1 : List ByteArray) (x4_1 : Int) (x5_1 : Int), v4 = .int .i64 x4_1 ∧ v5 = .int .i64 x5_1 ∧ Aside0 (reveilleref5_raw.l0 kq a0 x3_1 x4_1 x5_1 = some r) ∧ Aside0 (kq ≤ k) ∧ Aside0 (Kd.R Kd.string 9 w' w.heap.size (fun _ => True) v3 x3_1) ∧ Aside0 (Below w.heap.size w w'))
 case atStart => exact ⟨(([] : List ByteArray)), (0), (0), (by first | rfl | (simp; done) | (simp [*]; done)), (by first | rfl | (simp; done) | (simp [*]; done)), H', ⟨Nat.le_refl _⟩, ⟨by first | exact Kd.R_nil _ _ _ _ _ | exact Kd.N_nil _ _ _ _ _ | exact Kd.V_nil _ _ _ _ _ | exact Kd.Q_nil _ _ _ _ _ | exact Kd.S_nil _ _ _ _ _⟩, ⟨by repeat (first | (with_reducible first | exact HB.out | apply below_alloc | apply pw_below_drewN | apply below_drew1) | exact HB.out)⟩⟩
 case round =>
  clear H'
  obtain ⟨x3_1, x4_1, x5_1, rfl, rfl, HA, HK1, HO_3, HB⟩ := hrel
  cases gk with
  | zero => exact absurd HA.out (by simp [reveilleref5_raw.l0])
  | succ k1 =>
   have H := HA.out
   clear HA
   simp only [reveilleref5_raw.l0] at H
   by_cases c2 : x5_1 < (a0.size : Int)
   ·rw [if_pos c2] at H
    have c2b0 : decide (x5_1 < (a0.size : Int)) = true := decide_eq_true c2
    clear c2
    by_cases c3 : 0 ≤ x5_1
    ·rw [if_pos c3] at H
     have c3b0 : decide (0 ≤ x5_1) = true := decide_eq_true c3
     clear c3
     by_cases c5 : (bt a0 x5_1) = 10
     ·rw [if_pos c5] at H
      have c5b0 : ((bt a0 x5_1) == 10) = true := beq_iff_eq.mpr c5
      have c5b1 : ((bt a0 x5_1) != 10) = false := bne_eq_false_iff_eq.mpr c5
      clear c5
      by_cases c6 : 0 ≤ x4_1
      ·rw [if_pos c6] at H
       have c6b0 := eq_true c6
       have c6b1 : decide (0 ≤ x4_1) = true := decide_eq_true c6
       clear c6
       by_cases c7 : x4_1 ≤ x5_1
       ·rw [if_pos c7] at H
        have c7b0 := eq_true c7
        have c7b1 : decide (x4_1 ≤ x5_1) = true := decide_eq_true c7
        clear c7
        by_cases c8 : x5_1 ≤ (a0.size : Int)
        ·rw [if_pos c8] at H
         have c8b0 := eq_true c8
         have c8b1 : decide (x5_1 ≤ (a0.size : Int)) = true := decide_eq_true c8
         clear c8
         by_cases c9 : x3_1.length < 8796093022208
         ·rw [if_pos c9] at H
          have LMc9 := Aside0.mk c9
          clear c9
          obtain ⟨y147, hy147⟩ : ∃ y_ : List ByteArray, y_ = (x3_1 ++ [a0.extract (x4_1 : Int).toNat (x5_1 : Int).toNat]) := ⟨_, rfl⟩
          replace H : (reveilleref5_raw.l0 k1 a0 y147 (wrap64 (x5_1 + 1)) (wrap64 (x5_1 + 1))) = some r := by first | (rw [hy147]; with_reducible exact H) | (have H2_ := (Option.bind_some _ _).symm.trans H; rw [hy147]; with_reducible exact H2_) | (have H2_ := (Option.bind_some _ _).symm.trans H; with_reducible exact H2_) | with_reducible exact H | (rw [hy147]; exact H) | exact H
          have Ny147 := Aside0.mk hy147
          clear hy147
          have H' := Aside0.mk H
          clear H
          have p4 : 0 ≤ (x5_1 : Int) := of_decide_eq_true (by first | (with_reducible assumption) | assumption)
          have q4 : x5_1 < (a0.size : Int) := of_decide_eq_true (by first | (with_reducible assumption) | assumption)
          have hx4 := bt_at a0 x5_1
          replace p4 := eq_true p4
          replace q4 := eq_true q4
          go_wp2_with (first | ((with_reducible refine gate_builtin (b := .append) (xs := #[.tmp 16, .tmp 21]) rfl ?_); at_builtin; refine Kd.R_append Kd.string (w0 := w) w.heap.size rfl (.tmp 16) (.tmp 21) 39 9 (.string ⟨#[]⟩) 16 rfl Tryd.underlying39 info9 rfl (by decide) (by omega) u3 x3_1 (a0.extract (x4_1 : Int).toNat (x5_1 : Int).toNat) [.string (a0.extract (x4_1 : Int).toNat (x5_1 : Int).toNat)] (fun _ => True) (fun _ => False) rfl rfl ?aP (fun _ hk => hk.elim) ?aF ?aO ?aB ?aS ?aL ?_; (case aP => exact rfl); (case aB => exact (by repeat (first | (with_reducible first | exact HB.out | apply below_alloc | apply pw_below_drewN | apply below_drew1) | exact HB.out))); (case aF => exact (fun _ _ => trivial)); (case aO => exact (by (with_reducible repeat (first | apply Kd.R_alloc | apply Kd.R_drewN | apply Kd.R_drew)); exact HO_3.out)); (case aS => exact (below_size (by repeat (first | (with_reducible first | exact HB.out | apply below_alloc | apply pw_below_drewN | apply below_drew1) | exact HB.out)))); (case aL => have := LMc9.out; omega); intro v148 w10 ho hb hg hat; rw [← Ny147.out] at ho; have n0_ := Aside0.mk (hb); have n1_ := Aside0.mk (ho); clear HB; clear HO_3; have HB := n0_; have HO149 := n1_; clear n0_ n1_; clear ho hb hg hat))
          go_roundg k1
          case measure => have := HK1.out; omega
          case rel => exact ⟨(y147), (wrap64 (x5_1 + 1)), (wrap64 (x5_1 + 1)), (by first | rfl | (simp; done) | (simp [*]; done)), (by first | rfl | (simp; done) | (simp [*]; done)), H', ⟨by have := HK1.out; omega⟩, ⟨by (with_reducible repeat (first | apply Kd.R_alloc | apply Kd.R_drewN | apply Kd.R_drew)); exact HO149.out⟩, ⟨by repeat (first | (with_reducible first | exact HB.out | apply below_alloc | apply pw_below_drewN | apply below_drew1) | exact HB.out)⟩⟩
         ·rw [if_neg c9] at H
          exact absurd H (by simp)
        ·rw [if_neg c8] at H
         exact absurd H (by simp)
       ·rw [if_neg c7] at H
        exact absurd H (by simp)
      ·rw [if_neg c6] at H
       exact absurd H (by simp)
     ·rw [if_neg c5] at H
      have c5b0 : ((bt a0 x5_1) == 10) = false := beq_eq_false_iff_ne.mpr c5
      have c5b1 : ((bt a0 x5_1) != 10) = true := bne_iff_ne.mpr c5
      have H' := Aside0.mk H
      clear H
      have p4 : 0 ≤ (x5_1 : Int) := of_decide_eq_true (by first | (with_reducible assumption) | assumption)
      have q4 : x5_1 < (a0.size : Int) := of_decide_eq_true (by first | (with_reducible assumption) | assumption)
      have hx4 := bt_at a0 x5_1
      replace p4 := eq_true p4
      replace q4 := eq_true q4
      go_wp2
      go_roundg k1
      case measure => have := HK1.out; omega
      case rel => exact ⟨(x3_1), (x4_1), (wrap64 (x5_1 + 1)), (by first | rfl | (simp; done) | (simp [*]; done)), (by first | rfl | (simp; done) | (simp [*]; done)), H', ⟨by have := HK1.out; omega⟩, ⟨by (with_reducible repeat (first | apply Kd.R_alloc | apply Kd.R_drewN | apply Kd.R_drew)); exact HO_3.out⟩, ⟨by repeat (first | (with_reducible first | exact HB.out | apply below_alloc | apply pw_below_drewN | apply below_drew1) | exact HB.out)⟩⟩
    ·rw [if_neg c3] at H
     exact absurd H (by simp)
   ·rw [if_neg c2] at H
    have c2b0 : decide (x5_1 < (a0.size : Int)) = false := decide_eq_false c2
    clear c2
    by_cases c11 : 0 ≤ x4_1
    ·rw [if_pos c11] at H
     have c11b0 := eq_true c11
     have c11b1 : decide (0 ≤ x4_1) = true := decide_eq_true c11
     clear c11
     by_cases c12 : x4_1 ≤ (a0.size : Int)
     ·rw [if_pos c12] at H
      have c12b0 := eq_true c12
      have c12b1 : decide (x4_1 ≤ (a0.size : Int)) = true := decide_eq_true c12
      clear c12
      by_cases c13 : x3_1.length < 8796093022208
      ·rw [if_pos c13] at H
       have LMc13 := Aside0.mk c13
       clear c13
       obtain ⟨y150, hy150⟩ : ∃ y_ : List ByteArray, y_ = (x3_1 ++ [a0.extract (x4_1 : Int).toNat a0.size]) := ⟨_, rfl⟩
       replace H : (some y150) = some r := by first | (rw [hy150]; with_reducible exact H) | (have H2_ := (Option.bind_some _ _).symm.trans H; rw [hy150]; with_reducible exact H2_) | (have H2_ := (Option.bind_some _ _).symm.trans H; with_reducible exact H2_) | with_reducible exact H | (rw [hy150]; exact H) | exact H
       have Ny150 := Aside0.mk hy150
       clear hy150
       obtain rfl := Option.some.inj H
       go_wp2_with (first | ((with_reducible refine gate_builtin (b := .append) (xs := #[.tmp 25, .tmp 29]) rfl ?_); at_builtin; refine Kd.R_append Kd.string (w0 := w) w.heap.size rfl (.tmp 25) (.tmp 29) 39 9 (.string ⟨#[]⟩) 16 rfl Tryd.underlying39 info9 rfl (by decide) (by omega) u3 x3_1 (a0.extract (x4_1 : Int).toNat a0.size) [.string (a0.extract (x4_1 : Int).toNat a0.size)] (fun _ => True) (fun _ => False) rfl rfl ?aP (fun _ hk => hk.elim) ?aF ?aO ?aB ?aS ?aL ?_; (case aP => exact rfl); (case aB => exact (by repeat (first | (with_reducible first | exact HB.out | apply below_alloc | apply pw_below_drewN | apply below_drew1) | exact HB.out))); (case aF => exact (fun _ _ => trivial)); (case aO => exact (by (with_reducible repeat (first | apply Kd.R_alloc | apply Kd.R_drewN | apply Kd.R_drew)); exact HO_3.out)); (case aS => exact (below_size (by repeat (first | (with_reducible first | exact HB.out | apply below_alloc | apply pw_below_drewN | apply below_drew1) | exact HB.out)))); (case aL => have := LMc13.out; omega); intro v151 w14 ho hb hg hat; rw [← Ny150.out] at ho; have n0_ := Aside0.mk (hb); have n1_ := Aside0.mk (ho); clear HB; clear HO_3; have HB := n0_; have HO152 := n1_; clear n0_ n1_; clear ho hb hg hat))
       go_ret
       exact ⟨_, by first | rfl | (simp [errW_none, errW_some] <;> rfl) | (simp [*, errW_none, errW_some] <;> rfl), by (with_reducible repeat (first | apply Kd.R_alloc | apply Kd.R_drewN | apply Kd.R_drew)); exact HO152.out, by repeat (first | (with_reducible first | exact HB.out | apply below_alloc | apply pw_below_drewN | apply below_drew1) | exact HB.out)⟩
      ·rw [if_neg c13] at H
       exact absurd H (by simp)
     ·rw [if_neg c12] at H
      exact absurd H (by simp)
    ·rw [if_neg c11] at H
     exact absurd H (by simp)


/-! ### reveilleref5_Blank: function 52 -/
def reveilleref5_Blank.f (a0 : Int) : Option (Bool) := if a0 = 32 then (some true) else (some (a0 == 9))
set_option maxHeartbeats 8000000 in
set_option maxRecDepth 100000 in
theorem reveilleref5_Blank.calls (a0 : Int) (r : Bool) (w : World) (h : reveilleref5_Blank.f a0 = some r) :
  Calls Tryd.prog 52 #[.int .u8 a0] w fun e w' => e = .returned (.bool r) ∧ Drawn0 w w' := by
 have H : (if a0 = 32 then (some true) else (some (a0 == 9))) = some r := h
 clear h
 by_cases c2 : a0 = 32
 ·rw [if_pos c2] at H
  have c2b0 : (a0 == 32) = true := beq_iff_eq.mpr c2
  have c2b1 : (a0 != 32) = false := bne_eq_false_iff_eq.mpr c2
  clear c2
  obtain rfl := Option.some.inj H
  go_enter Tryd.func52, Tryd.ntmps52
  go_wp2
  go_ret
  exact ⟨by first | rfl | (simp; done) | (simp [*]; done), by repeat (first | exact Drawn0.refl _ | apply Drawn0.step)⟩
 ·rw [if_neg c2] at H
  have c2b0 : (a0 == 32) = false := beq_eq_false_iff_ne.mpr c2
  have c2b1 : (a0 != 32) = true := bne_iff_ne.mpr c2
  obtain rfl := Option.some.inj H
  go_enter Tryd.func52, Tryd.ntmps52
  go_wp2
  go_ret
  exact ⟨by first | rfl | (simp; done) | (simp [*]; done), by repeat (first | exact Drawn0.refl _ | apply Drawn0.step)⟩


/-! ### reveilleref5_Trim: function 36 -/
mutual
def reveilleref5_Trim.j1 : Nat → ByteArray → Int → Int → Option (ByteArray)
 | 0, _, _, _ => none
 | k + 1, x0, x3, x4 => reveilleref5_Trim.l1 k x0 x3 x4
def reveilleref5_Trim.l1 : Nat → ByteArray → Int → Int → Option (ByteArray)
 | 0, _, _, _ => none
 | k + 1, x0, x3, x4 => if x4 > x3 then (if 0 ≤ (wrap64 (x4 - 1)) then (if (wrap64 (x4 - 1)) < (x0.size : Int) then ((reveilleref5_Blank.f (bt x0 (wrap64 (x4 - 1)))).bind fun t154 => (if t154 = true then (reveilleref5_Trim.l1 k x0 x3 (wrap64 (x4 - 1))) else (if 0 ≤ x3 then (if x3 ≤ x4 then (if x4 ≤ (x0.size : Int) then (some (x0.extract (x3 : Int).toNat (x4 : Int).toNat)) else (none)) else (none)) else (none)))) else (none)) else (none)) else (if 0 ≤ x3 then (if x3 ≤ x4 then (if x4 ≤ (x0.size : Int) then (some (x0.extract (x3 : Int).toNat (x4 : Int).toNat)) else (none)) else (none)) else (none))
def reveilleref5_Trim.l0 : Nat → ByteArray → Int → Int → Option (ByteArray)
 | 0, _, _, _ => none
 | k + 1, x0, x3, x4 => if x3 < x4 then (if 0 ≤ x3 then (if x3 < (x0.size : Int) then ((reveilleref5_Blank.f (bt x0 x3)).bind fun t153 => (if t153 = true then (reveilleref5_Trim.l0 k x0 (wrap64 (x3 + 1)) x4) else (reveilleref5_Trim.j1 k x0 x3 x4))) else (none)) else (none)) else (reveilleref5_Trim.j1 k x0 x3 x4)
end
def reveilleref5_Trim.f (k : Nat) (a0 : ByteArray) : Option (ByteArray) := reveilleref5_Trim.l0 k a0 0 (a0.size : Int)
theorem reveilleref5_Trim.mono_l : ∀ k, (∀ y0 y1 y2, LeO (reveilleref5_Trim.j1 k y0 y1 y2) (reveilleref5_Trim.j1 (k + 1) y0 y1 y2)) ∧ (∀ y0 y1 y2, LeO (reveilleref5_Trim.l1 k y0 y1 y2) (reveilleref5_Trim.l1 (k + 1) y0 y1 y2)) ∧ (∀ y0 y1 y2, LeO (reveilleref5_Trim.l0 k y0 y1 y2) (reveilleref5_Trim.l0 (k + 1) y0 y1 y2))
 | 0 => ⟨fun _ _ _ r h => by simp [reveilleref5_Trim.j1] at h, fun _ _ _ r h => by simp [reveilleref5_Trim.l1] at h, fun _ _ _ r h => by simp [reveilleref5_Trim.l0] at h⟩
 | k + 1 => by
  obtain ⟨ih0, ih1, ih2⟩ := reveilleref5_Trim.mono_l k
  refine ⟨?_, ?_, ?_⟩
  ·intro y0 y1 y2
   unfold reveilleref5_Trim.j1
   repeat' first
   | (with_reducible exact ih0 _ _ _)
   | (with_reducible exact ih1 _ _ _)
   | (with_reducible exact ih2 _ _ _)
   | (with_reducible exact LeO.refl _)
   | (with_reducible exact LeO.none _)
   | (with_reducible refine LeO.ite ?_ ?_)
   | (with_reducible refine LeO.bind ?_ (fun _ => ?_))
   | exact ih0 _ _ _
   | exact ih1 _ _ _
   | exact ih2 _ _ _
   | exact LeO.none _
   | refine LeO.ite ?_ ?_
   | refine LeO.bind ?_ (fun _ => ?_)
  ·intro y0 y1 y2
   unfold reveilleref5_Trim.l1
   repeat' first
   | (with_reducible exact ih0 _ _ _)
   | (with_reducible exact ih1 _ _ _)
   | (with_reducible exact ih2 _ _ _)
   | (with_reducible exact LeO.refl _)
   | (with_reducible exact LeO.none _)
   | (with_reducible refine LeO.ite ?_ ?_)
   | (with_reducible refine LeO.bind ?_ (fun _ => ?_))
   | exact ih0 _ _ _
   | exact ih1 _ _ _
   | exact ih2 _ _ _
   | exact LeO.none _
   | refine LeO.ite ?_ ?_
   | refine LeO.bind ?_ (fun _ => ?_)
  ·intro y0 y1 y2
   unfold reveilleref5_Trim.l0
   repeat' first
   | (with_reducible exact ih0 _ _ _)
   | (with_reducible exact ih1 _ _ _)
   | (with_reducible exact ih2 _ _ _)
   | (with_reducible exact LeO.refl _)
   | (with_reducible exact LeO.none _)
   | (with_reducible refine LeO.ite ?_ ?_)
   | (with_reducible refine LeO.bind ?_ (fun _ => ?_))
   | exact ih0 _ _ _
   | exact ih1 _ _ _
   | exact ih2 _ _ _
   | exact LeO.none _
   | refine LeO.ite ?_ ?_
   | refine LeO.bind ?_ (fun _ => ?_)
theorem reveilleref5_Trim.mono : ∀ a0 k, LeO (reveilleref5_Trim.f k a0) (reveilleref5_Trim.f (k + 1) a0) := by
 intro a0 k
 obtain ⟨ih0, ih1, ih2⟩ := reveilleref5_Trim.mono_l k
 unfold reveilleref5_Trim.f
 repeat' first
   | (with_reducible exact ih0 _ _ _)
   | (with_reducible exact ih1 _ _ _)
   | (with_reducible exact ih2 _ _ _)
   | (with_reducible exact LeO.refl _)
   | (with_reducible exact LeO.none _)
   | (with_reducible refine LeO.ite ?_ ?_)
   | (with_reducible refine LeO.bind ?_ (fun _ => ?_))
   | exact ih0 _ _ _
   | exact ih1 _ _ _
   | exact ih2 _ _ _
   | exact LeO.none _
   | refine LeO.ite ?_ ?_
   | refine LeO.bind ?_ (fun _ => ?_)
set_option maxHeartbeats 8000000 in
set_option maxRecDepth 100000 in
theorem reveilleref5_Trim.calls (k : Nat) (a0 : ByteArray) (r : ByteArray) (w : World) (h : reveilleref5_Trim.f k a0 = some r) :
  Calls Tryd.prog 36 #[.string a0] w fun e w' => e = .returned (.string r) ∧ Drawn0 w w' := by
 have H : (reveilleref5_Trim.l0 k a0 0 (a0.size : Int)) = some r := h
 clear h
 have HC2 := Aside0.mk H
 clear H
 go_enter Tryd.func36, Tryd.ntmps36
 go_upto_block 0 with (fail)
 go_cut [3] (fun v3 wc => ∃ (kq : Nat) (x3_1 : Int), v3 = .int .i64 x3_1 ∧ Aside0 (reveilleref5_Trim.j1 kq a0 x3_1 (a0.size : Int) = some r) ∧ Aside0 (kq ≤ k) ∧ Drawn0 w wc)
 case first =>
  have H := HC2.out
  clear HC2
  have H' := Aside0.mk H
  clear H
  go_wp2
  go_loopg [3] k (fun kq v3 w' => ∃ (x3_1 : Int), v3 = .int .i64 x3_1 ∧ Aside0 (reveilleref5_Trim.l0 kq a0 x3_1 (a0.size : Int) = some r) ∧ Aside0 (kq ≤ k) ∧ Drawn0 w w')
  case atStart => exact ⟨(0), (by first | rfl | (simp; done) | (simp [*]; done)), H', ⟨Nat.le_refl _⟩, by repeat (first | exact Drawn0.refl _ | apply Drawn0.step)⟩
  case round =>
   clear H'
   try clear p2
   obtain ⟨x3_1, rfl, HA, HK1, ⟨m1, rfl⟩⟩ := hrel
   cases gk with
   | zero => exact absurd HA.out (by simp [reveilleref5_Trim.l0])
   | succ k1 =>
    have H := HA.out
    clear HA
    simp only [reveilleref5_Trim.l0] at H
    by_cases c3 : x3_1 < (a0.size : Int)
    ·rw [if_pos c3] at H
     have c3b0 : decide (x3_1 < (a0.size : Int)) = true := decide_eq_true c3
     clear c3
     (first | rw [c3b0] | (simp only [i64_w, i32_w]; rw [c3b0]) | skip)
     by_cases c4 : 0 ≤ x3_1
     ·rw [if_pos c4] at H
      have c4b0 : decide (0 ≤ x3_1) = true := decide_eq_true c4
      clear c4
      by_cases c5 : x3_1 < (a0.size : Int)
      ·rw [if_pos c5] at H
       have c5b0 : decide (x3_1 < (a0.size : Int)) = true := decide_eq_true c5
       clear c5
       replace H := Option.bind_eq_some_iff.mp H
       obtain ⟨t153, A70, H⟩ := H
       replace H : (if t153 = true then (reveilleref5_Trim.l0 k1 a0 (wrap64 (x3_1 + 1)) (a0.size : Int)) else (reveilleref5_Trim.j1 k1 a0 x3_1 (a0.size : Int))) = some r := H
       have A7 := Aside0.mk A70
       clear A70
       by_cases c8 : t153 = true
       ·subst c8
        have H1 : (reveilleref5_Trim.l0 k1 a0 (wrap64 (x3_1 + 1)) (a0.size : Int)) = some r := by rw [if_pos rfl] at H; exact H
        clear H
        have H := H1
        clear H1
        have H' := Aside0.mk H
        clear H
        have p6 : 0 ≤ (x3_1 : Int) := of_decide_eq_true (by first | (with_reducible assumption) | assumption)
        have q6 : x3_1 < (a0.size : Int) := of_decide_eq_true (by first | (with_reducible assumption) | assumption)
        have hx6 := bt_at a0 x3_1
        replace p6 := eq_true p6
        replace q6 := eq_true q6
        go_wp2_with (first | (go_at_call 52; (with_reducible refine (reveilleref5_Blank.calls (bt a0 x3_1) true _ A7.out).mono ?_); rintro e w' ⟨rfl, ⟨nd, rfl⟩⟩))
        go_roundg k1
        case measure => have := HK1.out; omega
        case rel => exact ⟨(wrap64 (x3_1 + 1)), (by first | rfl | (simp; done) | (simp [*]; done)), H', ⟨by have := HK1.out; omega⟩, by repeat (first | exact Drawn0.refl _ | apply Drawn0.step)⟩
       ·replace c8 := Bool.eq_false_iff.mpr c8
        subst c8
        have H1 : (reveilleref5_Trim.j1 k1 a0 x3_1 (a0.size : Int)) = some r := by rw [if_neg (show ¬ (false = true) by decide)] at H; exact H
        clear H
        have H := H1
        clear H1
        have H' := Aside0.mk H
        clear H
        have p6 : 0 ≤ (x3_1 : Int) := of_decide_eq_true (by first | (with_reducible assumption) | assumption)
        have q6 : x3_1 < (a0.size : Int) := of_decide_eq_true (by first | (with_reducible assumption) | assumption)
        have hx6 := bt_at a0 x3_1
        replace p6 := eq_true p6
        replace q6 := eq_true q6
        go_wp2_with (first | (go_at_call 52; (with_reducible refine (reveilleref5_Blank.calls (bt a0 x3_1) false _ A7.out).mono ?_); rintro e w' ⟨rfl, ⟨nd, rfl⟩⟩))
        go_meet
        case rel => exact ⟨_, (x3_1), (by first | rfl | (simp; done) | (simp [*]; done)), H', ⟨by have := HK1.out; first | omega | exact Nat.le_refl _⟩, by repeat (first | exact Drawn0.refl _ | apply Drawn0.step)⟩
      ·rw [if_neg c5] at H
       exact absurd H (by simp)
     ·rw [if_neg c4] at H
      exact absurd H (by simp)
    ·rw [if_neg c3] at H
     have c3b0 : decide (x3_1 < (a0.size : Int)) = false := decide_eq_false c3
     clear c3
     (first | rw [c3b0] | (simp only [i64_w, i32_w]; rw [c3b0]) | skip)
     have H' := Aside0.mk H
     clear H
     go_wp2
     go_meet
     case rel => exact ⟨_, (x3_1), (by first | rfl | (simp; done) | (simp [*]; done)), H', ⟨by have := HK1.out; first | omega | exact Nat.le_refl _⟩, by repeat (first | exact Drawn0.refl _ | apply Drawn0.step)⟩
 case rest =>
  clear HC2
  try clear p2
  try clear c3
  try clear c3b0
  try clear c4
  try clear c4b0
  try clear c5
  try clear c5b0
  try clear p6
  try clear q6
  try clear hx6
  try clear c8
  try clear p2
  try clear p6
  try clear q6
  obtain ⟨kq, x3_1, rfl, HA, HJ1, ⟨mc1, rfl⟩⟩ := hcut
  cases kq with
  | zero => exact absurd HA.out (by simp [reveilleref5_Trim.j1])
  | succ kj1 =>
   have H := HA.out
   clear HA
   simp only [reveilleref5_Trim.j1] at H
   have H' := Aside0.mk H
   clear H
   go_wp2
   go_loopg [4] kj1 (fun kq v4 w' => ∃ (x4_2 : Int), v4 = .int .i64 x4_2 ∧ Aside0 (reveilleref5_Trim.l1 kq a0 x3_1 x4_2 = some r) ∧ Aside0 (kq ≤ kj1) ∧ Drawn0 w w')
   case atStart => exact ⟨((a0.size : Int)), (by first | rfl | (simp; done) | (simp [*]; done)), H', ⟨Nat.le_refl _⟩, by repeat (first | exact Drawn0.refl _ | apply Drawn0.step)⟩
   case round =>
    clear H'
    try clear c1
    try clear p2
    try clear c3
    try clear c3b0
    try clear c4
    try clear c4b0
    try clear c5
    try clear c5b0
    try clear p6
    try clear q6
    try clear hx6
    try clear c8
    try clear p2
    try clear p6
    try clear q6
    obtain ⟨x4_2, rfl, HA, HK2, ⟨m2, rfl⟩⟩ := hrel
    cases gk with
    | zero => exact absurd HA.out (by simp [reveilleref5_Trim.l1])
    | succ k2 =>
     have H := HA.out
     clear HA
     simp only [reveilleref5_Trim.l1] at H
     by_cases c9 : x4_2 > x3_1
     ·rw [if_pos c9] at H
      have c9b0 : decide (x3_1 < x4_2) = true := decide_eq_true c9
      clear c9
      obtain ⟨ji10, hji10⟩ : ∃ j_ : Int, (wrap64 (x4_2 - 1)) = j_ := ⟨_, rfl⟩
      replace H : (if 0 ≤ (ji10) then (if (ji10) < (a0.size : Int) then ((reveilleref5_Blank.f (bt a0 (ji10))).bind fun t154 => (if t154 = true then (reveilleref5_Trim.l1 k2 a0 x3_1 ji10) else (if 0 ≤ x3_1 then (if x3_1 ≤ x4_2 then (if x4_2 ≤ (a0.size : Int) then (some (a0.extract (x3_1 : Int).toNat (x4_2 : Int).toNat)) else (none)) else (none)) else (none)))) else (none)) else (none)) = some r := by first | (rw [hji10] at H; exact H) | (simp only [hji10] at H ⊢; exact H)
      have hji10w : (IntKind.i64.wrap (x4_2 - 1)) = ji10 := (i64_w _).trans hji10
      by_cases c11 : 0 ≤ (ji10)
      ·rw [if_pos c11] at H
       have c11b0 : decide (0 ≤ (ji10)) = true := decide_eq_true c11
       clear c11
       by_cases c12 : (ji10) < (a0.size : Int)
       ·rw [if_pos c12] at H
        have c12b0 : decide ((ji10) < (a0.size : Int)) = true := decide_eq_true c12
        clear c12
        replace H := Option.bind_eq_some_iff.mp H
        obtain ⟨t154, A140, H⟩ := H
        replace H : (if t154 = true then (reveilleref5_Trim.l1 k2 a0 x3_1 ji10) else (if 0 ≤ x3_1 then (if x3_1 ≤ x4_2 then (if x4_2 ≤ (a0.size : Int) then (some (a0.extract (x3_1 : Int).toNat (x4_2 : Int).toNat)) else (none)) else (none)) else (none))) = some r := H
        have A14 := Aside0.mk A140
        clear A140
        by_cases c15 : t154 = true
        ·subst c15
         have H1 : (reveilleref5_Trim.l1 k2 a0 x3_1 ji10) = some r := by rw [if_pos rfl] at H; exact H
         clear H
         have H := H1
         clear H1
         have H' := Aside0.mk H
         clear H
         have p13 : 0 ≤ ((ji10) : Int) := of_decide_eq_true (by first | (with_reducible assumption) | assumption)
         have q13 : (ji10) < (a0.size : Int) := of_decide_eq_true (by first | (with_reducible assumption) | assumption)
         have hx13 := bt_at a0 (ji10)
         replace p13 := eq_true p13
         replace q13 := eq_true q13
         go_wp2_with (first | (go_at_call 52; (with_reducible refine (reveilleref5_Blank.calls (bt a0 (ji10)) true _ A14.out).mono ?_); rintro e w' ⟨rfl, ⟨nd, rfl⟩⟩))
         go_roundg k2
         case measure => have := HJ1.out; have := HK2.out; omega
         case rel => exact ⟨(ji10), (by first | rfl | (simp; done) | (simp only [← hji10] <;> (first | rfl | simp)) | (simp [*]; done)), H', ⟨by have := HJ1.out; have := HK2.out; omega⟩, by repeat (first | exact Drawn0.refl _ | apply Drawn0.step)⟩
        ·replace c15 := Bool.eq_false_iff.mpr c15
         subst c15
         have H1 : (if 0 ≤ x3_1 then (if x3_1 ≤ x4_2 then (if x4_2 ≤ (a0.size : Int) then (some (a0.extract (x3_1 : Int).toNat (x4_2 : Int).toNat)) else (none)) else (none)) else (none)) = some r := by rw [if_neg (show ¬ (false = true) by decide)] at H; exact H
         clear H
         have H := H1
         clear H1
         by_cases c16 : 0 ≤ x3_1
         ·rw [if_pos c16] at H
          have c16b0 := eq_true c16
          have c16b1 : decide (0 ≤ x3_1) = true := decide_eq_true c16
          clear c16
          by_cases c17 : x3_1 ≤ x4_2
          ·rw [if_pos c17] at H
           have c17b0 := eq_true c17
           have c17b1 : decide (x3_1 ≤ x4_2) = true := decide_eq_true c17
           clear c17
           by_cases c18 : x4_2 ≤ (a0.size : Int)
           ·rw [if_pos c18] at H
            have c18b0 := eq_true c18
            have c18b1 : decide (x4_2 ≤ (a0.size : Int)) = true := decide_eq_true c18
            clear c18
            obtain rfl := Option.some.inj H
            have p13 : 0 ≤ ((ji10) : Int) := of_decide_eq_true (by first | (with_reducible assumption) | assumption)
            have q13 : (ji10) < (a0.size : Int) := of_decide_eq_true (by first | (with_reducible assumption) | assumption)
            have hx13 := bt_at a0 (ji10)
            replace p13 := eq_true p13
            replace q13 := eq_true q13
            go_wp2_with (first | (go_at_call 52; (with_reducible refine (reveilleref5_Blank.calls (bt a0 (ji10)) false _ A14.out).mono ?_); rintro e w' ⟨rfl, ⟨nd, rfl⟩⟩))
            go_ret
            exact ⟨by first | rfl | (simp; done) | (simp only [← hji10] <;> (first | rfl | simp)) | (simp [*]; done), by repeat (first | exact Drawn0.refl _ | apply Drawn0.step)⟩
           ·rw [if_neg c18] at H
            exact absurd H (by simp)
          ·rw [if_neg c17] at H
           exact absurd H (by simp)
         ·rw [if_neg c16] at H
          exact absurd H (by simp)
       ·rw [if_neg c12] at H
        exact absurd H (by simp)
      ·rw [if_neg c11] at H
       exact absurd H (by simp)
     ·rw [if_neg c9] at H
      have c9b0 : decide (x3_1 < x4_2) = false := decide_eq_false c9
      clear c9
      by_cases c19 : 0 ≤ x3_1
      ·rw [if_pos c19] at H
       have c19b0 := eq_true c19
       have c19b1 : decide (0 ≤ x3_1) = true := decide_eq_true c19
       clear c19
       by_cases c20 : x3_1 ≤ x4_2
       ·rw [if_pos c20] at H
        have c20b0 := eq_true c20
        have c20b1 : decide (x3_1 ≤ x4_2) = true := decide_eq_true c20
        clear c20
        by_cases c21 : x4_2 ≤ (a0.size : Int)
        ·rw [if_pos c21] at H
         have c21b0 := eq_true c21
         have c21b1 : decide (x4_2 ≤ (a0.size : Int)) = true := decide_eq_true c21
         clear c21
         obtain rfl := Option.some.inj H
         go_wp2
         go_ret
         exact ⟨by first | rfl | (simp; done) | (simp [*]; done), by repeat (first | exact Drawn0.refl _ | apply Drawn0.step)⟩
        ·rw [if_neg c21] at H
         exact absurd H (by simp)
       ·rw [if_neg c20] at H
        exact absurd H (by simp)
      ·rw [if_neg c19] at H
       exact absurd H (by simp)


/-! ### reveilleref5_section: function 53 -/
def reveilleref5_section.l0 : Nat → ByteArray → Int → Option (Bool)
 | 0, _, _ => none
 | k + 1, x0, x3 => if x3 < (x0.size : Int) then (if 0 ≤ x3 then (if (bt x0 x3) = 91 then (some false) else (if (bt x0 x3) = 93 then (some false) else (if (bt x0 x3) < 32 then (some false) else (reveilleref5_section.l0 k x0 (wrap64 (x3 + 1)))))) else (none)) else (some (decide ((x0.size : Int) > 0)))
def reveilleref5_section.f (k : Nat) (a0 : ByteArray) : Option (Bool) := reveilleref5_section.l0 k a0 0
theorem reveilleref5_section.mono_l : ∀ k, (∀ y0 y1, LeO (reveilleref5_section.l0 k y0 y1) (reveilleref5_section.l0 (k + 1) y0 y1))
 | 0 => fun _ _ r h => by simp [reveilleref5_section.l0] at h
 | k + 1 => by
  have ih0 := reveilleref5_section.mono_l k
  ·intro y0 y1
   unfold reveilleref5_section.l0
   repeat' first
   | (with_reducible exact ih0 _ _)
   | (with_reducible exact LeO.refl _)
   | (with_reducible exact LeO.none _)
   | (with_reducible refine LeO.ite ?_ ?_)
   | (with_reducible refine LeO.bind ?_ (fun _ => ?_))
   | exact ih0 _ _
   | exact LeO.none _
   | refine LeO.ite ?_ ?_
   | refine LeO.bind ?_ (fun _ => ?_)
theorem reveilleref5_section.mono : ∀ a0 k, LeO (reveilleref5_section.f k a0) (reveilleref5_section.f (k + 1) a0) := by
 intro a0 k
 have ih0 := reveilleref5_section.mono_l k
 unfold reveilleref5_section.f
 repeat' first
   | (with_reducible exact ih0 _ _)
   | (with_reducible exact LeO.refl _)
   | (with_reducible exact LeO.none _)
   | (with_reducible refine LeO.ite ?_ ?_)
   | (with_reducible refine LeO.bind ?_ (fun _ => ?_))
   | exact ih0 _ _
   | exact LeO.none _
   | refine LeO.ite ?_ ?_
   | refine LeO.bind ?_ (fun _ => ?_)
set_option maxHeartbeats 8000000 in
set_option maxRecDepth 100000 in
theorem reveilleref5_section.calls (k : Nat) (a0 : ByteArray) (r : Bool) (w : World) (h : reveilleref5_section.f k a0 = some r) :
  Calls Tryd.prog 53 #[.string a0] w fun e w' => e = .returned (.bool r) ∧ Drawn0 w w' := by
 have H : (reveilleref5_section.l0 k a0 0) = some r := h
 clear h
 have H' := Aside0.mk H
 clear H
 go_enter Tryd.func53, Tryd.ntmps53
 go_wp2
 go_loopg [3] k (fun kq v3 w' => ∃ (x3_1 : Int), v3 = .int .i64 x3_1 ∧ Aside0 (reveilleref5_section.l0 kq a0 x3_1 = some r) ∧ Aside0 (kq ≤ k) ∧ Drawn0 w w')
 case atStart => exact ⟨(0), (by first | rfl | (simp; done) | (simp [*]; done)), H', ⟨Nat.le_refl _⟩, by repeat (first | exact Drawn0.refl _ | apply Drawn0.step)⟩
 case round =>
  clear H'
  obtain ⟨x3_1, rfl, HA, HK1, ⟨m1, rfl⟩⟩ := hrel
  cases gk with
  | zero => exact absurd HA.out (by simp [reveilleref5_section.l0])
  | succ k1 =>
   have H := HA.out
   clear HA
   simp only [reveilleref5_section.l0] at H
   by_cases c2 : x3_1 < (a0.size : Int)
   ·rw [if_pos c2] at H
    have c2b0 : decide (x3_1 < (a0.size : Int)) = true := decide_eq_true c2
    clear c2
    by_cases c3 : 0 ≤ x3_1
    ·rw [if_pos c3] at H
     have c3b0 : decide (0 ≤ x3_1) = true := decide_eq_true c3
     clear c3
     by_cases c5 : (bt a0 x3_1) = 91
     ·rw [if_pos c5] at H
      have c5b0 : ((bt a0 x3_1) == 91) = true := beq_iff_eq.mpr c5
      have c5b1 : ((bt a0 x3_1) != 91) = false := bne_eq_false_iff_eq.mpr c5
      clear c5
      obtain rfl := Option.some.inj H
      have p4 : 0 ≤ (x3_1 : Int) := of_decide_eq_true (by first | (with_reducible assumption) | assumption)
      have q4 : x3_1 < (a0.size : Int) := of_decide_eq_true (by first | (with_reducible assumption) | assumption)
      have hx4 := bt_at a0 x3_1
      replace p4 := eq_true p4
      replace q4 := eq_true q4
      go_wp2
      go_ret
      exact ⟨by first | rfl | (simp; done) | (simp [*]; done), by repeat (first | exact Drawn0.refl _ | apply Drawn0.step)⟩
     ·rw [if_neg c5] at H
      have c5b0 : ((bt a0 x3_1) == 91) = false := beq_eq_false_iff_ne.mpr c5
      have c5b1 : ((bt a0 x3_1) != 91) = true := bne_iff_ne.mpr c5
      by_cases c7 : (bt a0 x3_1) = 93
      ·rw [if_pos c7] at H
       have c7b0 : ((bt a0 x3_1) == 93) = true := beq_iff_eq.mpr c7
       have c7b1 : ((bt a0 x3_1) != 93) = false := bne_eq_false_iff_eq.mpr c7
       clear c7
       obtain rfl := Option.some.inj H
       have p4 : 0 ≤ (x3_1 : Int) := of_decide_eq_true (by first | (with_reducible assumption) | assumption)
       have q4 : x3_1 < (a0.size : Int) := of_decide_eq_true (by first | (with_reducible assumption) | assumption)
       have hx4 := bt_at a0 x3_1
       replace p4 := eq_true p4
       replace q4 := eq_true q4
       have p6 : 0 ≤ (x3_1 : Int) := of_decide_eq_true (by first | (with_reducible assumption) | assumption)
       have q6 : x3_1 < (a0.size : Int) := of_decide_eq_true (by first | (with_reducible assumption) | assumption)
       have hx6 := bt_at a0 x3_1
       replace p6 := eq_true p6
       replace q6 := eq_true q6
       go_wp2
       go_ret
       exact ⟨by first | rfl | (simp; done) | (simp [*]; done), by repeat (first | exact Drawn0.refl _ | apply Drawn0.step)⟩
      ·rw [if_neg c7] at H
       have c7b0 : ((bt a0 x3_1) == 93) = false := beq_eq_false_iff_ne.mpr c7
       have c7b1 : ((bt a0 x3_1) != 93) = true := bne_iff_ne.mpr c7
       by_cases c9 : (bt a0 x3_1) < 32
       ·rw [if_pos c9] at H
        have c9b0 : decide ((bt a0 x3_1) < 32) = true := decide_eq_true c9
        clear c9
        obtain rfl := Option.some.inj H
        have p4 : 0 ≤ (x3_1 : Int) := of_decide_eq_true (by first | (with_reducible assumption) | assumption)
        have q4 : x3_1 < (a0.size : Int) := of_decide_eq_true (by first | (with_reducible assumption) | assumption)
        have hx4 := bt_at a0 x3_1
        replace p4 := eq_true p4
        replace q4 := eq_true q4
        have p6 : 0 ≤ (x3_1 : Int) := of_decide_eq_true (by first | (with_reducible assumption) | assumption)
        have q6 : x3_1 < (a0.size : Int) := of_decide_eq_true (by first | (with_reducible assumption) | assumption)
        have hx6 := bt_at a0 x3_1
        replace p6 := eq_true p6
        replace q6 := eq_true q6
        have p8 : 0 ≤ (x3_1 : Int) := of_decide_eq_true (by first | (with_reducible assumption) | assumption)
        have q8 : x3_1 < (a0.size : Int) := of_decide_eq_true (by first | (with_reducible assumption) | assumption)
        have hx8 := bt_at a0 x3_1
        replace p8 := eq_true p8
        replace q8 := eq_true q8
        go_wp2
        go_ret
        exact ⟨by first | rfl | (simp; done) | (simp [*]; done), by repeat (first | exact Drawn0.refl _ | apply Drawn0.step)⟩
       ·rw [if_neg c9] at H
        have c9b0 : decide ((bt a0 x3_1) < 32) = false := decide_eq_false c9
        clear c9
        have H' := Aside0.mk H
        clear H
        have p4 : 0 ≤ (x3_1 : Int) := of_decide_eq_true (by first | (with_reducible assumption) | assumption)
        have q4 : x3_1 < (a0.size : Int) := of_decide_eq_true (by first | (with_reducible assumption) | assumption)
        have hx4 := bt_at a0 x3_1
        replace p4 := eq_true p4
        replace q4 := eq_true q4
        have p6 : 0 ≤ (x3_1 : Int) := of_decide_eq_true (by first | (with_reducible assumption) | assumption)
        have q6 : x3_1 < (a0.size : Int) := of_decide_eq_true (by first | (with_reducible assumption) | assumption)
        have hx6 := bt_at a0 x3_1
        replace p6 := eq_true p6
        replace q6 := eq_true q6
        have p8 : 0 ≤ (x3_1 : Int) := of_decide_eq_true (by first | (with_reducible assumption) | assumption)
        have q8 : x3_1 < (a0.size : Int) := of_decide_eq_true (by first | (with_reducible assumption) | assumption)
        have hx8 := bt_at a0 x3_1
        replace p8 := eq_true p8
        replace q8 := eq_true q8
        go_wp2
        go_roundg k1
        case measure => have := HK1.out; omega
        case rel => exact ⟨(wrap64 (x3_1 + 1)), (by first | rfl | (simp; done) | (simp [*]; done)), H', ⟨by have := HK1.out; omega⟩, by repeat (first | exact Drawn0.refl _ | apply Drawn0.step)⟩
    ·rw [if_neg c3] at H
     exact absurd H (by simp)
   ·rw [if_neg c2] at H
    have c2b0 : decide (x3_1 < (a0.size : Int)) = false := decide_eq_false c2
    clear c2
    obtain rfl := Option.some.inj H
    go_wp2
    go_ret
    exact ⟨by first | rfl | (simp; done) | (simp [*]; done), by repeat (first | exact Drawn0.refl _ | apply Drawn0.step)⟩


/-! ### reveilleref5_key: function 54 -/
def reveilleref5_key.l0 : Nat → ByteArray → Int → Option (Bool)
 | 0, _, _ => none
 | k + 1, x0, x3 => if x3 < (x0.size : Int) then (if 0 ≤ x3 then (if (bt x0 x3) < 97 then (if (bt x0 x3) < 65 then (if (bt x0 x3) < 48 then (some false) else (if (bt x0 x3) > 57 then (some false) else (reveilleref5_key.l0 k x0 (wrap64 (x3 + 1))))) else (if (bt x0 x3) > 90 then (if (bt x0 x3) < 48 then (some false) else (if (bt x0 x3) > 57 then (some false) else (reveilleref5_key.l0 k x0 (wrap64 (x3 + 1))))) else (reveilleref5_key.l0 k x0 (wrap64 (x3 + 1))))) else (if (bt x0 x3) > 122 then (if (bt x0 x3) < 65 then (if (bt x0 x3) < 48 then (some false) else (if (bt x0 x3) > 57 then (some false) else (reveilleref5_key.l0 k x0 (wrap64 (x3 + 1))))) else (if (bt x0 x3) > 90 then (if (bt x0 x3) < 48 then (some false) else (if (bt x0 x3) > 57 then (some false) else (reveilleref5_key.l0 k x0 (wrap64 (x3 + 1))))) else (reveilleref5_key.l0 k x0 (wrap64 (x3 + 1))))) else (reveilleref5_key.l0 k x0 (wrap64 (x3 + 1))))) else (none)) else (some (decide ((x0.size : Int) > 0)))
def reveilleref5_key.f (k : Nat) (a0 : ByteArray) : Option (Bool) := reveilleref5_key.l0 k a0 0
theorem reveilleref5_key.mono_l : ∀ k, (∀ y0 y1, LeO (reveilleref5_key.l0 k y0 y1) (reveilleref5_key.l0 (k + 1) y0 y1))
 | 0 => fun _ _ r h => by simp [reveilleref5_key.l0] at h
 | k + 1 => by
  have ih0 := reveilleref5_key.mono_l k
  ·intro y0 y1
   unfold reveilleref5_key.l0
   repeat' first
   | (with_reducible exact ih0 _ _)
   | (with_reducible exact LeO.refl _)
   | (with_reducible exact LeO.none _)
   | (with_reducible refine LeO.ite ?_ ?_)
   | (with_reducible refine LeO.bind ?_ (fun _ => ?_))
   | exact ih0 _ _
   | exact LeO.none _
   | refine LeO.ite ?_ ?_
   | refine LeO.bind ?_ (fun _ => ?_)
theorem reveilleref5_key.mono : ∀ a0 k, LeO (reveilleref5_key.f k a0) (reveilleref5_key.f (k + 1) a0) := by
 intro a0 k
 have ih0 := reveilleref5_key.mono_l k
 unfold reveilleref5_key.f
 repeat' first
   | (with_reducible exact ih0 _ _)
   | (with_reducible exact LeO.refl _)
   | (with_reducible exact LeO.none _)
   | (with_reducible refine LeO.ite ?_ ?_)
   | (with_reducible refine LeO.bind ?_ (fun _ => ?_))
   | exact ih0 _ _
   | exact LeO.none _
   | refine LeO.ite ?_ ?_
   | refine LeO.bind ?_ (fun _ => ?_)
set_option maxHeartbeats 8000000 in
set_option maxRecDepth 100000 in
theorem reveilleref5_key.calls (k : Nat) (a0 : ByteArray) (r : Bool) (w : World) (h : reveilleref5_key.f k a0 = some r) :
  Calls Tryd.prog 54 #[.string a0] w fun e w' => e = .returned (.bool r) ∧ Drawn0 w w' := by
 have H : (reveilleref5_key.l0 k a0 0) = some r := h
 clear h
 have H' := Aside0.mk H
 clear H
 go_enter Tryd.func54, Tryd.ntmps54
 go_wp2
 go_loopg [3] k (fun kq v3 w' => ∃ (x3_1 : Int), v3 = .int .i64 x3_1 ∧ Aside0 (reveilleref5_key.l0 kq a0 x3_1 = some r) ∧ Aside0 (kq ≤ k) ∧ Drawn0 w w')
 case atStart => exact ⟨(0), (by first | rfl | (simp; done) | (simp [*]; done)), H', ⟨Nat.le_refl _⟩, by repeat (first | exact Drawn0.refl _ | apply Drawn0.step)⟩
 case round =>
  clear H'
  obtain ⟨x3_1, rfl, HA, HK1, ⟨m1, rfl⟩⟩ := hrel
  cases gk with
  | zero => exact absurd HA.out (by simp [reveilleref5_key.l0])
  | succ k1 =>
   have H := HA.out
   clear HA
   simp only [reveilleref5_key.l0] at H
   by_cases c2 : x3_1 < (a0.size : Int)
   ·rw [if_pos c2] at H
    have c2b0 : decide (x3_1 < (a0.size : Int)) = true := decide_eq_true c2
    clear c2
    by_cases c3 : 0 ≤ x3_1
    ·rw [if_pos c3] at H
     have c3b0 : decide (0 ≤ x3_1) = true := decide_eq_true c3
     clear c3
     by_cases c5 : (bt a0 x3_1) < 97
     ·rw [if_pos c5] at H
      have c5b0 : decide ((bt a0 x3_1) < 97) = true := decide_eq_true c5
      clear c5
      by_cases c6 : (bt a0 x3_1) < 65
      ·rw [if_pos c6] at H
       have c6b0 : decide ((bt a0 x3_1) < 65) = true := decide_eq_true c6
       clear c6
       by_cases c7 : (bt a0 x3_1) < 48
       ·rw [if_pos c7] at H
        have c7b0 : decide ((bt a0 x3_1) < 48) = true := decide_eq_true c7
        clear c7
        obtain rfl := Option.some.inj H
        have p4 : 0 ≤ (x3_1 : Int) := of_decide_eq_true (by first | (with_reducible assumption) | assumption)
        have q4 : x3_1 < (a0.size : Int) := of_decide_eq_true (by first | (with_reducible assumption) | assumption)
        have hx4 := bt_at a0 x3_1
        replace p4 := eq_true p4
        replace q4 := eq_true q4
        go_wp2
        go_ret
        exact ⟨by first | rfl | (simp; done) | (simp [*]; done), by repeat (first | exact Drawn0.refl _ | apply Drawn0.step)⟩
       ·rw [if_neg c7] at H
        have c7b0 : decide ((bt a0 x3_1) < 48) = false := decide_eq_false c7
        clear c7
        by_cases c8 : (bt a0 x3_1) > 57
        ·rw [if_pos c8] at H
         have c8b0 : decide (57 < (bt a0 x3_1)) = true := decide_eq_true c8
         clear c8
         obtain rfl := Option.some.inj H
         have p4 : 0 ≤ (x3_1 : Int) := of_decide_eq_true (by first | (with_reducible assumption) | assumption)
         have q4 : x3_1 < (a0.size : Int) := of_decide_eq_true (by first | (with_reducible assumption) | assumption)
         have hx4 := bt_at a0 x3_1
         replace p4 := eq_true p4
         replace q4 := eq_true q4
         go_wp2
         go_ret
         exact ⟨by first | rfl | (simp; done) | (simp [*]; done), by repeat (first | exact Drawn0.refl _ | apply Drawn0.step)⟩
        ·rw [if_neg c8] at H
         have c8b0 : decide (57 < (bt a0 x3_1)) = false := decide_eq_false c8
         clear c8
         have H' := Aside0.mk H
         clear H
         have p4 : 0 ≤ (x3_1 : Int) := of_decide_eq_true (by first | (with_reducible assumption) | assumption)
         have q4 : x3_1 < (a0.size : Int) := of_decide_eq_true (by first | (with_reducible assumption) | assumption)
         have hx4 := bt_at a0 x3_1
         replace p4 := eq_true p4
         replace q4 := eq_true q4
         go_wp2
         go_roundg k1
         case measure => have := HK1.out; omega
         case rel => exact ⟨(wrap64 (x3_1 + 1)), (by first | rfl | (simp; done) | (simp [*]; done)), H', ⟨by have := HK1.out; omega⟩, by repeat (first | exact Drawn0.refl _ | apply Drawn0.step)⟩
      ·rw [if_neg c6] at H
       have c6b0 : decide ((bt a0 x3_1) < 65) = false := decide_eq_false c6
       clear c6
       by_cases c9 : (bt a0 x3_1) > 90
       ·rw [if_pos c9] at H
        have c9b0 : decide (90 < (bt a0 x3_1)) = true := decide_eq_true c9
        clear c9
        by_cases c10 : (bt a0 x3_1) < 48
        ·rw [if_pos c10] at H
         have c10b0 : decide ((bt a0 x3_1) < 48) = true := decide_eq_true c10
         clear c10
         obtain rfl := Option.some.inj H
         have p4 : 0 ≤ (x3_1 : Int) := of_decide_eq_true (by first | (with_reducible assumption) | assumption)
         have q4 : x3_1 < (a0.size : Int) := of_decide_eq_true (by first | (with_reducible assumption) | assumption)
         have hx4 := bt_at a0 x3_1
         replace p4 := eq_true p4
         replace q4 := eq_true q4
         go_wp2
         go_ret
         exact ⟨by first | rfl | (simp; done) | (simp [*]; done), by repeat (first | exact Drawn0.refl _ | apply Drawn0.step)⟩
        ·rw [if_neg c10] at H
         have c10b0 : decide ((bt a0 x3_1) < 48) = false := decide_eq_false c10
         clear c10
         by_cases c11 : (bt a0 x3_1) > 57
         ·rw [if_pos c11] at H
          have c11b0 : decide (57 < (bt a0 x3_1)) = true := decide_eq_true c11
          clear c11
          obtain rfl := Option.some.inj H
          have p4 : 0 ≤ (x3_1 : Int) := of_decide_eq_true (by first | (with_reducible assumption) | assumption)
          have q4 : x3_1 < (a0.size : Int) := of_decide_eq_true (by first | (with_reducible assumption) | assumption)
          have hx4 := bt_at a0 x3_1
          replace p4 := eq_true p4
          replace q4 := eq_true q4
          go_wp2
          go_ret
          exact ⟨by first | rfl | (simp; done) | (simp [*]; done), by repeat (first | exact Drawn0.refl _ | apply Drawn0.step)⟩
         ·rw [if_neg c11] at H
          have c11b0 : decide (57 < (bt a0 x3_1)) = false := decide_eq_false c11
          clear c11
          have H' := Aside0.mk H
          clear H
          have p4 : 0 ≤ (x3_1 : Int) := of_decide_eq_true (by first | (with_reducible assumption) | assumption)
          have q4 : x3_1 < (a0.size : Int) := of_decide_eq_true (by first | (with_reducible assumption) | assumption)
          have hx4 := bt_at a0 x3_1
          replace p4 := eq_true p4
          replace q4 := eq_true q4
          go_wp2
          go_roundg k1
          case measure => have := HK1.out; omega
          case rel => exact ⟨(wrap64 (x3_1 + 1)), (by first | rfl | (simp; done) | (simp [*]; done)), H', ⟨by have := HK1.out; omega⟩, by repeat (first | exact Drawn0.refl _ | apply Drawn0.step)⟩
       ·rw [if_neg c9] at H
        have c9b0 : decide (90 < (bt a0 x3_1)) = false := decide_eq_false c9
        clear c9
        have H' := Aside0.mk H
        clear H
        have p4 : 0 ≤ (x3_1 : Int) := of_decide_eq_true (by first | (with_reducible assumption) | assumption)
        have q4 : x3_1 < (a0.size : Int) := of_decide_eq_true (by first | (with_reducible assumption) | assumption)
        have hx4 := bt_at a0 x3_1
        replace p4 := eq_true p4
        replace q4 := eq_true q4
        go_wp2
        go_roundg k1
        case measure => have := HK1.out; omega
        case rel => exact ⟨(wrap64 (x3_1 + 1)), (by first | rfl | (simp; done) | (simp [*]; done)), H', ⟨by have := HK1.out; omega⟩, by repeat (first | exact Drawn0.refl _ | apply Drawn0.step)⟩
     ·rw [if_neg c5] at H
      have c5b0 : decide ((bt a0 x3_1) < 97) = false := decide_eq_false c5
      clear c5
      by_cases c12 : (bt a0 x3_1) > 122
      ·rw [if_pos c12] at H
       have c12b0 : decide (122 < (bt a0 x3_1)) = true := decide_eq_true c12
       clear c12
       by_cases c13 : (bt a0 x3_1) < 65
       ·rw [if_pos c13] at H
        have c13b0 : decide ((bt a0 x3_1) < 65) = true := decide_eq_true c13
        clear c13
        by_cases c14 : (bt a0 x3_1) < 48
        ·rw [if_pos c14] at H
         have c14b0 : decide ((bt a0 x3_1) < 48) = true := decide_eq_true c14
         clear c14
         obtain rfl := Option.some.inj H
         have p4 : 0 ≤ (x3_1 : Int) := of_decide_eq_true (by first | (with_reducible assumption) | assumption)
         have q4 : x3_1 < (a0.size : Int) := of_decide_eq_true (by first | (with_reducible assumption) | assumption)
         have hx4 := bt_at a0 x3_1
         replace p4 := eq_true p4
         replace q4 := eq_true q4
         go_wp2
         go_ret
         exact ⟨by first | rfl | (simp; done) | (simp [*]; done), by repeat (first | exact Drawn0.refl _ | apply Drawn0.step)⟩
        ·rw [if_neg c14] at H
         have c14b0 : decide ((bt a0 x3_1) < 48) = false := decide_eq_false c14
         clear c14
         by_cases c15 : (bt a0 x3_1) > 57
         ·rw [if_pos c15] at H
          have c15b0 : decide (57 < (bt a0 x3_1)) = true := decide_eq_true c15
          clear c15
          obtain rfl := Option.some.inj H
          have p4 : 0 ≤ (x3_1 : Int) := of_decide_eq_true (by first | (with_reducible assumption) | assumption)
          have q4 : x3_1 < (a0.size : Int) := of_decide_eq_true (by first | (with_reducible assumption) | assumption)
          have hx4 := bt_at a0 x3_1
          replace p4 := eq_true p4
          replace q4 := eq_true q4
          go_wp2
          go_ret
          exact ⟨by first | rfl | (simp; done) | (simp [*]; done), by repeat (first | exact Drawn0.refl _ | apply Drawn0.step)⟩
         ·rw [if_neg c15] at H
          have c15b0 : decide (57 < (bt a0 x3_1)) = false := decide_eq_false c15
          clear c15
          have H' := Aside0.mk H
          clear H
          have p4 : 0 ≤ (x3_1 : Int) := of_decide_eq_true (by first | (with_reducible assumption) | assumption)
          have q4 : x3_1 < (a0.size : Int) := of_decide_eq_true (by first | (with_reducible assumption) | assumption)
          have hx4 := bt_at a0 x3_1
          replace p4 := eq_true p4
          replace q4 := eq_true q4
          go_wp2
          go_roundg k1
          case measure => have := HK1.out; omega
          case rel => exact ⟨(wrap64 (x3_1 + 1)), (by first | rfl | (simp; done) | (simp [*]; done)), H', ⟨by have := HK1.out; omega⟩, by repeat (first | exact Drawn0.refl _ | apply Drawn0.step)⟩
       ·rw [if_neg c13] at H
        have c13b0 : decide ((bt a0 x3_1) < 65) = false := decide_eq_false c13
        clear c13
        by_cases c16 : (bt a0 x3_1) > 90
        ·rw [if_pos c16] at H
         have c16b0 : decide (90 < (bt a0 x3_1)) = true := decide_eq_true c16
         clear c16
         by_cases c17 : (bt a0 x3_1) < 48
         ·rw [if_pos c17] at H
          have c17b0 : decide ((bt a0 x3_1) < 48) = true := decide_eq_true c17
          clear c17
          obtain rfl := Option.some.inj H
          have p4 : 0 ≤ (x3_1 : Int) := of_decide_eq_true (by first | (with_reducible assumption) | assumption)
          have q4 : x3_1 < (a0.size : Int) := of_decide_eq_true (by first | (with_reducible assumption) | assumption)
          have hx4 := bt_at a0 x3_1
          replace p4 := eq_true p4
          replace q4 := eq_true q4
          go_wp2
          go_ret
          exact ⟨by first | rfl | (simp; done) | (simp [*]; done), by repeat (first | exact Drawn0.refl _ | apply Drawn0.step)⟩
         ·rw [if_neg c17] at H
          have c17b0 : decide ((bt a0 x3_1) < 48) = false := decide_eq_false c17
          clear c17
          by_cases c18 : (bt a0 x3_1) > 57
          ·rw [if_pos c18] at H
           have c18b0 : decide (57 < (bt a0 x3_1)) = true := decide_eq_true c18
           clear c18
           obtain rfl := Option.some.inj H
           have p4 : 0 ≤ (x3_1 : Int) := of_decide_eq_true (by first | (with_reducible assumption) | assumption)
           have q4 : x3_1 < (a0.size : Int) := of_decide_eq_true (by first | (with_reducible assumption) | assumption)
           have hx4 := bt_at a0 x3_1
           replace p4 := eq_true p4
           replace q4 := eq_true q4
           go_wp2
           go_ret
           exact ⟨by first | rfl | (simp; done) | (simp [*]; done), by repeat (first | exact Drawn0.refl _ | apply Drawn0.step)⟩
          ·rw [if_neg c18] at H
           have c18b0 : decide (57 < (bt a0 x3_1)) = false := decide_eq_false c18
           clear c18
           have H' := Aside0.mk H
           clear H
           have p4 : 0 ≤ (x3_1 : Int) := of_decide_eq_true (by first | (with_reducible assumption) | assumption)
           have q4 : x3_1 < (a0.size : Int) := of_decide_eq_true (by first | (with_reducible assumption) | assumption)
           have hx4 := bt_at a0 x3_1
           replace p4 := eq_true p4
           replace q4 := eq_true q4
           go_wp2
           go_roundg k1
           case measure => have := HK1.out; omega
           case rel => exact ⟨(wrap64 (x3_1 + 1)), (by first | rfl | (simp; done) | (simp [*]; done)), H', ⟨by have := HK1.out; omega⟩, by repeat (first | exact Drawn0.refl _ | apply Drawn0.step)⟩
        ·rw [if_neg c16] at H
         have c16b0 : decide (90 < (bt a0 x3_1)) = false := decide_eq_false c16
         clear c16
         have H' := Aside0.mk H
         clear H
         have p4 : 0 ≤ (x3_1 : Int) := of_decide_eq_true (by first | (with_reducible assumption) | assumption)
         have q4 : x3_1 < (a0.size : Int) := of_decide_eq_true (by first | (with_reducible assumption) | assumption)
         have hx4 := bt_at a0 x3_1
         replace p4 := eq_true p4
         replace q4 := eq_true q4
         go_wp2
         go_roundg k1
         case measure => have := HK1.out; omega
         case rel => exact ⟨(wrap64 (x3_1 + 1)), (by first | rfl | (simp; done) | (simp [*]; done)), H', ⟨by have := HK1.out; omega⟩, by repeat (first | exact Drawn0.refl _ | apply Drawn0.step)⟩
      ·rw [if_neg c12] at H
       have c12b0 : decide (122 < (bt a0 x3_1)) = false := decide_eq_false c12
       clear c12
       have H' := Aside0.mk H
       clear H
       have p4 : 0 ≤ (x3_1 : Int) := of_decide_eq_true (by first | (with_reducible assumption) | assumption)
       have q4 : x3_1 < (a0.size : Int) := of_decide_eq_true (by first | (with_reducible assumption) | assumption)
       have hx4 := bt_at a0 x3_1
       replace p4 := eq_true p4
       replace q4 := eq_true q4
       go_wp2
       go_roundg k1
       case measure => have := HK1.out; omega
       case rel => exact ⟨(wrap64 (x3_1 + 1)), (by first | rfl | (simp; done) | (simp [*]; done)), H', ⟨by have := HK1.out; omega⟩, by repeat (first | exact Drawn0.refl _ | apply Drawn0.step)⟩
    ·rw [if_neg c3] at H
     exact absurd H (by simp)
   ·rw [if_neg c2] at H
    have c2b0 : decide (x3_1 < (a0.size : Int)) = false := decide_eq_false c2
    clear c2
    obtain rfl := Option.some.inj H
    go_wp2
    go_ret
    exact ⟨by first | rfl | (simp; done) | (simp [*]; done), by repeat (first | exact Drawn0.refl _ | apply Drawn0.step)⟩


/-! ### reveilleref5_line: function 37 -/
mutual
def reveilleref5_line.j0 : Nat → Int → ByteArray → Int → Bool → Option (Int × ByteArray × ByteArray × Int × Bool)
 | 0, _, _, _, _ => none
 | k + 1, x1, x6, x7, x27 => if x27 = true then (if 1 ≤ (wrap64 (x7 - 1)) then (if (wrap64 (x7 - 1)) ≤ (x6.size : Int) then ((reveilleref5_section.f k (x6.extract 1 ((wrap64 (x7 - 1)) : Int).toNat)).bind fun t157 => (some (1, x6.extract 1 ((wrap64 (x7 - 1)) : Int).toNat, (⟨#[]⟩ : ByteArray), x1, t157))) else (none)) else (none)) else (reveilleref5_line.l0 k x1 x6 x7 0)
def reveilleref5_line.l0 : Nat → Int → ByteArray → Int → Int → Option (Int × ByteArray × ByteArray × Int × Bool)
 | 0, _, _, _, _ => none
 | k + 1, x1, x6, x7, x8 => if x8 < x7 then (if 0 ≤ x8 then (if x8 < (x6.size : Int) then (if (bt x6 x8) = 61 then (if x8 ≤ (x6.size : Int) then ((reveilleref5_Trim.f k (x6.extract 0 (x8 : Int).toNat)).bind fun t158 => (if 0 ≤ (wrap64 (x8 + 1)) then (if (wrap64 (x8 + 1)) ≤ (x6.size : Int) then ((reveilleref5_Trim.f k (x6.extract ((wrap64 (x8 + 1)) : Int).toNat x6.size)).bind fun t159 => ((reveilleref5_key.f k t158).bind fun t160 => (some (2, t158, t159, x1, t160)))) else (none)) else (none))) else (none)) else (reveilleref5_line.l0 k x1 x6 x7 (wrap64 (x8 + 1)))) else (none)) else (none)) else (some (0, (⟨#[]⟩ : ByteArray), (⟨#[]⟩ : ByteArray), 0, false))
end
def reveilleref5_line.f (k : Nat) (a0 : ByteArray) (a1 : Int) : Option (Int × ByteArray × ByteArray × Int × Bool) := (reveilleref5_Trim.f k a0).bind fun t156 => (if (t156.size : Int) ≥ 2 then (if 0 < (t156.size : Int) then (if (bt t156 0) = 91 then (if 0 ≤ (wrap64 ((t156.size : Int) - 1)) then (if (wrap64 ((t156.size : Int) - 1)) < (t156.size : Int) then (reveilleref5_line.j0 k a1 t156 (t156.size : Int) ((bt t156 (wrap64 ((t156.size : Int) - 1))) == 93)) else (none)) else (none)) else (reveilleref5_line.j0 k a1 t156 (t156.size : Int) false)) else (none)) else (reveilleref5_line.j0 k a1 t156 (t156.size : Int) false))
theorem reveilleref5_line.mono_l : ∀ k, (∀ y0 y1 y2 y3, LeO (reveilleref5_line.j0 k y0 y1 y2 y3) (reveilleref5_line.j0 (k + 1) y0 y1 y2 y3)) ∧ (∀ y0 y1 y2 y3, LeO (reveilleref5_line.l0 k y0 y1 y2 y3) (reveilleref5_line.l0 (k + 1) y0 y1 y2 y3))
 | 0 => ⟨fun _ _ _ _ r h => by simp [reveilleref5_line.j0] at h, fun _ _ _ _ r h => by simp [reveilleref5_line.l0] at h⟩
 | k + 1 => by
  obtain ⟨ih0, ih1⟩ := reveilleref5_line.mono_l k
  refine ⟨?_, ?_⟩
  ·intro y0 y1 y2 y3
   unfold reveilleref5_line.j0
   repeat' first
   | (with_reducible exact ih0 _ _ _ _)
   | (with_reducible exact ih1 _ _ _ _)
   | (with_reducible exact reveilleref5_Trim.mono _ _)
   | (with_reducible exact reveilleref5_key.mono _ _)
   | (with_reducible exact reveilleref5_section.mono _ _)
   | (with_reducible exact LeO.refl _)
   | (with_reducible exact LeO.none _)
   | (with_reducible refine LeO.ite ?_ ?_)
   | (with_reducible refine LeO.bind ?_ (fun _ => ?_))
   | exact ih0 _ _ _ _
   | exact ih1 _ _ _ _
   | exact reveilleref5_Trim.mono _ _
   | exact reveilleref5_key.mono _ _
   | exact reveilleref5_section.mono _ _
   | exact LeO.none _
   | refine LeO.ite ?_ ?_
   | refine LeO.bind ?_ (fun _ => ?_)
  ·intro y0 y1 y2 y3
   unfold reveilleref5_line.l0
   repeat' first
   | (with_reducible exact ih0 _ _ _ _)
   | (with_reducible exact ih1 _ _ _ _)
   | (with_reducible exact reveilleref5_Trim.mono _ _)
   | (with_reducible exact reveilleref5_key.mono _ _)
   | (with_reducible exact reveilleref5_section.mono _ _)
   | (with_reducible exact LeO.refl _)
   | (with_reducible exact LeO.none _)
   | (with_reducible refine LeO.ite ?_ ?_)
   | (with_reducible refine LeO.bind ?_ (fun _ => ?_))
   | exact ih0 _ _ _ _
   | exact ih1 _ _ _ _
   | exact reveilleref5_Trim.mono _ _
   | exact reveilleref5_key.mono _ _
   | exact reveilleref5_section.mono _ _
   | exact LeO.none _
   | refine LeO.ite ?_ ?_
   | refine LeO.bind ?_ (fun _ => ?_)
theorem reveilleref5_line.mono : ∀ a0 a1 k, LeO (reveilleref5_line.f k a0 a1) (reveilleref5_line.f (k + 1) a0 a1) := by
 intro a0 a1 k
 obtain ⟨ih0, ih1⟩ := reveilleref5_line.mono_l k
 unfold reveilleref5_line.f
 repeat' first
   | (with_reducible exact ih0 _ _ _ _)
   | (with_reducible exact ih1 _ _ _ _)
   | (with_reducible exact reveilleref5_Trim.mono _ _)
   | (with_reducible exact reveilleref5_key.mono _ _)
   | (with_reducible exact reveilleref5_section.mono _ _)
   | (with_reducible exact LeO.refl _)
   | (with_reducible exact LeO.none _)
   | (with_reducible refine LeO.ite ?_ ?_)
   | (with_reducible refine LeO.bind ?_ (fun _ => ?_))
   | exact ih0 _ _ _ _
   | exact ih1 _ _ _ _
   | exact reveilleref5_Trim.mono _ _
   | exact reveilleref5_key.mono _ _
   | exact reveilleref5_section.mono _ _
   | exact LeO.none _
   | refine LeO.ite ?_ ?_
   | refine LeO.bind ?_ (fun _ => ?_)
def reveilleref5_line.T4 : Bool × List (List Nat × List Nat) := (true, [([], []), ([], []), ([1], [1]), ([0, 2], [0, 2]), ([], []), ([3, 4], [3, 4]), ([], []), ([], []), ([7], [7]), ([6, 8], [6, 8]), ([9], [9]), ([5, 10, 0, 1, 2, 3, 4, 5], [5]), ([10, 11, 0, 1, 2, 3, 4, 5, 6, 7, 8, 9, 10, 11], [10])])
def reveilleref5_line.B4 : List Nat := [0, 0, 2, 7, 0, 31, 0, 0, 128, 448, 960, 2047, 4095]
theorem reveilleref5_line.tab4 : rtab .any (opsOf Tryd.f37 4) = reveilleref5_line.T4 := by kernel_rfl
theorem reveilleref5_line.bits4 : waitsOk reveilleref5_line.T4.2 reveilleref5_line.B4 = true := by kernel_rfl
set_option maxHeartbeats 8000000 in
set_option maxRecDepth 100000 in
theorem reveilleref5_line.calls (k : Nat) (a0 : ByteArray) (a1 : Int) (r1 : Int) (r2 : ByteArray) (r3 : ByteArray) (r4 : Int) (r5 : Bool) (w : World) (h : reveilleref5_line.f k a0 a1 = some (r1, r2, r3, r4, r5)) :
  Calls Tryd.prog 37 #[.string a0, .int .i64 a1] w fun e w' => e = .returned (.tuple #[.agg #[.int .i64 r1, .string r2, .string r3, .int .i64 r4], .bool r5]) ∧ Below w.heap.size w w' := by
 have hu60 := Tryd.underlying60
 have HB := Aside0.mk (Below.refl w.heap.size w)
 have H : ((reveilleref5_Trim.f k a0).bind fun t156 => (if (t156.size : Int) ≥ 2 then (if 0 < (t156.size : Int) then (if (bt t156 0) = 91 then (if 0 ≤ (wrap64 ((t156.size : Int) - 1)) then (if (wrap64 ((t156.size : Int) - 1)) < (t156.size : Int) then (reveilleref5_line.j0 k a1 t156 (t156.size : Int) ((bt t156 (wrap64 ((t156.size : Int) - 1))) == 93)) else (none)) else (none)) else (reveilleref5_line.j0 k a1 t156 (t156.size : Int) false)) else (none)) else (reveilleref5_line.j0 k a1 t156 (t156.size : Int) false))) = some (r1, r2, r3, r4, r5) := h
 clear h
 replace H := Option.bind_eq_some_iff.mp H
 obtain ⟨t156, A30, H⟩ := H
 replace H : (if (t156.size : Int) ≥ 2 then (if 0 < (t156.size : Int) then (if (bt t156 0) = 91 then (if 0 ≤ (wrap64 ((t156.size : Int) - 1)) then (if (wrap64 ((t156.size : Int) - 1)) < (t156.size : Int) then (reveilleref5_line.j0 k a1 t156 (t156.size : Int) ((bt t156 (wrap64 ((t156.size : Int) - 1))) == 93)) else (none)) else (none)) else (reveilleref5_line.j0 k a1 t156 (t156.size : Int) false)) else (none)) else (reveilleref5_line.j0 k a1 t156 (t156.size : Int) false)) = some (r1, r2, r3, r4, r5) := H
 have A3 := Aside0.mk A30
 clear A30
 have HC4 := Aside0.mk H
 clear H
 go_enter Tryd.func37, Tryd.ntmps37
 go_upto_region 3 with (first | ((with_reducible refine gate_dst (N := 4) rfl ?_); refine box_event ?hg (N := 4) ?hd (cs := #[.int .i64 0, .string (⟨#[]⟩ : ByteArray), .string (⟨#[]⟩ : ByteArray), .int .i64 0]) (t := 60) ?hr ?_; (case hd => rfl); (case hg => rfl); (case hr => first | (go_simp; done) | (go_simp; rfl)); intro gb155 hg w5 hbox hb; have n0_ := Aside0.mk (below_step (by repeat (first | (with_reducible first | exact HB.out | apply below_alloc | apply pw_below_drewN | apply below_drew1) | exact HB.out)) hb); have n1_ := Aside0.mk (hbox); have n2_ := Aside0.mk ((by rw [hg]; exact (below_size (by repeat (first | (with_reducible first | exact HB.out | apply below_alloc | apply pw_below_drewN | apply below_drew1) | exact HB.out))) : w.heap.size ≤ gb155)); have n3_ := Aside0.mk ((by rw [hg]; exact (below_size (by repeat (first | (with_reducible first | exact HB.out | apply below_alloc | apply pw_below_drewN | apply below_drew1) | exact HB.out))) : w.heap.size ≤ gb155)); clear HB; have HB := n0_; have BK155 := n1_; have GW155 := n2_; have GE155 := n3_; clear n0_ n1_ n2_ n3_; clear hb hbox hg) | ((with_reducible refine gate_callee (f := 36) rfl ?_); refine goesL_ (some 11) rfl rfl Tryd.func36 (by kernel_rfl) rfl #[.string a0] rfl (by (try simp only [List.map_toArray, List.map_cons, List.map_nil]); first | done | rfl | (simp only [List.length_drop, List.length_take]; rfl)) ?_; (with_reducible refine (reveilleref5_Trim.calls k a0 t156 _ A3.out).mono ?_); rintro e w' ⟨rfl, ⟨nd, rfl⟩⟩; refine ⟨_, rfl, ?_⟩))
 (try simp only [Act.put, List.setIfInBounds_toArray, List.set_cons_zero, List.set_cons_succ])
 go_cut [27] (fun v27 wc => ∃ (kq : Nat) (x27_3 : Bool), v27 = .bool x27_3 ∧ Aside0 (reveilleref5_line.j0 kq a1 t156 (t156.size : Int) x27_3 = some (r1, r2, r3, r4, r5)) ∧ Aside0 (kq ≤ k) ∧ Aside0 (wc.heap[gb155]? = some (.cells #[.int .i64 0, .string (⟨#[]⟩ : ByteArray), .string (⟨#[]⟩ : ByteArray), .int .i64 0] 60 (0, 0))) ∧ Aside0 (Below w.heap.size w wc))
 case first =>
  have H := HC4.out
  clear HC4
  by_cases c6 : (t156.size : Int) ≥ 2
  ·rw [if_pos c6] at H
   have c6b0 : decide (2 ≤ (t156.size : Int)) = true := decide_eq_true c6
   have c6b1 : decide (2 ≤ t156.size) = true := decide_eq_true (by omega)
   clear c6
   (first | rw [c6b0] | (simp only [i64_w, i32_w]; rw [c6b0]) | skip)
   by_cases c7 : 0 < (t156.size : Int)
   ·rw [if_pos c7] at H
    have c7b0 : decide (0 < (t156.size : Int)) = true := decide_eq_true c7
    have c7b1 : decide (0 < t156.size) = true := decide_eq_true (by omega)
    clear c7
    by_cases c9 : (bt t156 0) = 91
    ·rw [if_pos c9] at H
     have c9b0 : ((bt t156 0) == 91) = true := beq_iff_eq.mpr c9
     have c9b1 : ((bt t156 0) != 91) = false := bne_eq_false_iff_eq.mpr c9
     clear c9
     obtain ⟨ji10, hji10⟩ : ∃ j_ : Int, (wrap64 ((t156.size : Int) - 1)) = j_ := ⟨_, rfl⟩
     replace H : (if 0 ≤ (ji10) then (if (ji10) < (t156.size : Int) then (reveilleref5_line.j0 k a1 t156 (t156.size : Int) ((bt t156 (ji10)) == 93)) else (none)) else (none)) = some (r1, r2, r3, r4, r5) := by first | (rw [hji10] at H; exact H) | (simp only [hji10] at H ⊢; exact H)
     have hji10w : (IntKind.i64.wrap ((t156.size : Int) - 1)) = ji10 := (i64_w _).trans hji10
     by_cases c11 : 0 ≤ (ji10)
     ·rw [if_pos c11] at H
      have c11b0 : decide (0 ≤ (ji10)) = true := decide_eq_true c11
      clear c11
      by_cases c12 : (ji10) < (t156.size : Int)
      ·rw [if_pos c12] at H
       have c12b0 : decide ((ji10) < (t156.size : Int)) = true := decide_eq_true c12
       clear c12
       have H' := Aside0.mk H
       clear H
       have p8 : 0 ≤ (0 : Int) := (by omega)
       have q8 : 0 < t156.size := (by have : (0 : Int) < (t156.size : Int) := of_decide_eq_true (by first | (with_reducible assumption) | assumption); omega)
       have hx8 : ∀ h : 0 < t156.size, ((t156[0]'h).toNat : Int) = bt t156 0 := bt_at t156 0
       clear p8
       have qi8 : (0 < (t156.size : Int)) = True := eq_true (of_decide_eq_true (by first | (with_reducible assumption) | assumption))
       replace q8 := eq_true q8
       have p13 : 0 ≤ ((ji10) : Int) := of_decide_eq_true (by first | (with_reducible assumption) | assumption)
       have q13 : (ji10) < (t156.size : Int) := of_decide_eq_true (by first | (with_reducible assumption) | assumption)
       have hx13 := bt_at t156 (ji10)
       replace p13 := eq_true p13
       replace q13 := eq_true q13
       go_wp2
       go_meet
       case rel => exact ⟨_, (((bt t156 (ji10)) == 93)), (by first | rfl | (simp; done) | (simp only [← hji10] <;> (first | rfl | simp)) | (simp [*]; done)), H', ⟨by first | omega | exact Nat.le_refl _⟩, ⟨by (with_reducible repeat (first | refine blk_drewN ?_ _ | refine blk_drew ?_ | refine blk_alloc ?_ _)); exact BK155.out⟩, ⟨by repeat (first | (with_reducible first | exact HB.out | apply below_alloc | apply pw_below_drewN | apply below_drew1 | refine below_set ?_ GE155.out) | exact HB.out)⟩⟩
      ·rw [if_neg c12] at H
       exact absurd H (by simp)
     ·rw [if_neg c11] at H
      exact absurd H (by simp)
    ·rw [if_neg c9] at H
     have c9b0 : ((bt t156 0) == 91) = false := beq_eq_false_iff_ne.mpr c9
     have c9b1 : ((bt t156 0) != 91) = true := bne_iff_ne.mpr c9
     have H' := Aside0.mk H
     clear H
     have p8 : 0 ≤ (0 : Int) := (by omega)
     have q8 : 0 < t156.size := (by have : (0 : Int) < (t156.size : Int) := of_decide_eq_true (by first | (with_reducible assumption) | assumption); omega)
     have hx8 : ∀ h : 0 < t156.size, ((t156[0]'h).toNat : Int) = bt t156 0 := bt_at t156 0
     clear p8
     have qi8 : (0 < (t156.size : Int)) = True := eq_true (of_decide_eq_true (by first | (with_reducible assumption) | assumption))
     replace q8 := eq_true q8
     go_wp2
     go_meet
     case rel => exact ⟨_, (false), (by first | rfl | (simp; done) | (simp [*]; done)), H', ⟨by first | omega | exact Nat.le_refl _⟩, ⟨by (with_reducible repeat (first | refine blk_drewN ?_ _ | refine blk_drew ?_ | refine blk_alloc ?_ _)); exact BK155.out⟩, ⟨by repeat (first | (with_reducible first | exact HB.out | apply below_alloc | apply pw_below_drewN | apply below_drew1 | refine below_set ?_ GE155.out) | exact HB.out)⟩⟩
   ·rw [if_neg c7] at H
    exact absurd H (by simp)
  ·rw [if_neg c6] at H
   have c6b0 : decide (2 ≤ (t156.size : Int)) = false := decide_eq_false c6
   have c6b1 : decide (2 ≤ t156.size) = false := decide_eq_false (by omega)
   clear c6
   (first | rw [c6b0] | (simp only [i64_w, i32_w]; rw [c6b0]) | skip)
   have H' := Aside0.mk H
   clear H
   go_wp2
   go_meet
   case rel => exact ⟨_, (false), (by first | rfl | (simp; done) | (simp [*]; done)), H', ⟨by first | omega | exact Nat.le_refl _⟩, ⟨by (with_reducible repeat (first | refine blk_drewN ?_ _ | refine blk_drew ?_ | refine blk_alloc ?_ _)); exact BK155.out⟩, ⟨by repeat (first | (with_reducible first | exact HB.out | apply below_alloc | apply pw_below_drewN | apply below_drew1 | refine below_set ?_ GE155.out) | exact HB.out)⟩⟩
 case rest =>
  clear HC4
  try clear c1
  try clear p1
  try clear q1
  try clear hx1
  try clear p2
  try clear c3
  try clear c6
  try clear c6b0
  try clear c6b1
  try clear p6
  try clear c7
  try clear c7b0
  try clear c7b1
  try clear p8
  try clear q8
  try clear hx8
  try clear qi8
  try clear c9
  try clear c9b0
  try clear c9b1
  try clear c11
  try clear c11b0
  try clear c12
  try clear c12b0
  try clear p13
  try clear q13
  try clear hx13
  try clear p13
  try clear p8
  try clear q13
  try clear q8
  obtain ⟨kq, x27_3, rfl, HA, HJ3, BK155, HB⟩ := hcut
  cases kq with
  | zero => exact absurd HA.out (by simp [reveilleref5_line.j0])
  | succ kj3 =>
   have H := HA.out
   clear HA
   simp only [reveilleref5_line.j0] at H
   by_cases c14 : x27_3 = true
   ·subst c14
    have H1 : (if 1 ≤ (wrap64 ((t156.size : Int) - 1)) then (if (wrap64 ((t156.size : Int) - 1)) ≤ (t156.size : Int) then ((reveilleref5_section.f kj3 (t156.extract 1 ((wrap64 ((t156.size : Int) - 1)) : Int).toNat)).bind fun t157 => (some (1, t156.extract 1 ((wrap64 ((t156.size : Int) - 1)) : Int).toNat, (⟨#[]⟩ : ByteArray), a1, t157))) else (none)) else (none)) = some (r1, r2, r3, r4, r5) := by rw [if_pos rfl] at H; exact H
    clear H
    have H := H1
    clear H1
    by_cases c15 : 1 ≤ (wrap64 ((t156.size : Int) - 1))
    ·rw [if_pos c15] at H
     have c15b0 := eq_true c15
     have c15b1 : decide (1 ≤ (wrap64 ((t156.size : Int) - 1))) = true := decide_eq_true c15
     clear c15
     by_cases c16 : (wrap64 ((t156.size : Int) - 1)) ≤ (t156.size : Int)
     ·rw [if_pos c16] at H
      have c16b0 := eq_true c16
      have c16b1 : decide ((wrap64 ((t156.size : Int) - 1)) ≤ (t156.size : Int)) = true := decide_eq_true c16
      clear c16
      have c17b0 := eq_true (of_decide_eq_true (by first | (with_reducible assumption) | assumption) : 1 ≤ (wrap64 ((t156.size : Int) - 1)))
      have c18b0 := eq_true (of_decide_eq_true (by first | (with_reducible assumption) | assumption) : (wrap64 ((t156.size : Int) - 1)) ≤ (t156.size : Int))
      replace H := Option.bind_eq_some_iff.mp H
      obtain ⟨t157, A190, H⟩ := H
      replace H : (some (1, t156.extract 1 ((wrap64 ((t156.size : Int) - 1)) : Int).toNat, (⟨#[]⟩ : ByteArray), a1, t157)) = some (r1, r2, r3, r4, r5) := H
      have A19 := Aside0.mk A190
      clear A190
      simp only [Option.some.injEq, Prod.mk.injEq] at H
      obtain ⟨rfl, rfl, rfl, rfl, rfl⟩ := H
      try go_wp2
      have n0_ := Aside0.mk (blk_drew BK155.out)
      have n1_ := Aside0.mk (below_drew1 HB.out)
      clear BK155
      clear HB
      have BK155 := n0_
      have HB := n1_
      clear n0_ n1_
      refine start_ (n := 13) (S := fun w' => True) (ds := []) #[false, false, false, false, false, false, false, false, false, false, false, false, false] (by kernel_rfl) rfl rfl trivial (fun hHeld => ?_); refine with_tabW reveilleref5_line.tab4 reveilleref5_line.bits4 (fun HT_ HW_ => ?_)
      generalize wc.drew = w20 at BK155 HB hHeld ⊢
      refine pure_ (i := 0) (N := some 28) (v := ?_) (a' := ?_) #[true, false, false, false, false, false, false, false, false, false, false, false, false] rfl rfl (any_of HT_.out (by kernel_rfl)) (fun _ _ _ h => h) (Or.inl ⟨by rfl, ?_⟩) ?_ ?_
      rotate_left
      ·intro w'
       go_simp
       with_reducible rfl
      rotate_left
      ·simp only [Act.put, List.setIfInBounds_toArray, List.set_cons_zero, List.set_cons_succ, i64_w, i32_w]
       rfl
      refine pure_ (i := 1) (N := some 29) (v := ?_) (a' := ?_) #[true, true, false, false, false, false, false, false, false, false, false, false, false] rfl rfl (any_of HT_.out (by kernel_rfl)) (fun _ _ _ h => h) (Or.inl ⟨by rfl, ?_⟩) ?_ ?_
      rotate_left
      ·intro w'
       go_simp
       with_reducible rfl
      rotate_left
      ·simp only [Act.put, List.setIfInBounds_toArray, List.set_cons_zero, List.set_cons_succ, i64_w, i32_w]
       rfl
      refine pure_ (i := 2) (N := some 30) (v := ?_) (a' := ?_) #[true, true, true, false, false, false, false, false, false, false, false, false, false] rfl rfl (any_of HT_.out (by kernel_rfl)) (fun _ _ _ h => h) (Or.inl ⟨by rfl, ?_⟩) ?_ ?_
      rotate_left
      ·intro w'
       go_simp
       with_reducible rfl
      rotate_left
      ·simp only [Act.put, List.setIfInBounds_toArray, List.set_cons_zero, List.set_cons_succ, i64_w, i32_w]
       rfl
      refine pure_ (i := 3) (N := some 31) (v := ?_) (a' := ?_) #[true, true, true, true, false, false, false, false, false, false, false, false, false] rfl rfl (any_of HT_.out (by kernel_rfl)) (fun _ _ _ h => h) (Or.inl ⟨by rfl, ?_⟩) ?_ ?_
      rotate_left
      ·intro w'
       go_simp
       with_reducible rfl
      rotate_left
      ·simp only [Act.put, List.setIfInBounds_toArray, List.set_cons_zero, List.set_cons_succ, i64_w, i32_w]
       rfl
      refine pure_ (i := 4) (N := some 32) (v := ?_) (a' := ?_) #[true, true, true, true, true, false, false, false, false, false, false, false, false] rfl rfl (any_of HT_.out (by kernel_rfl)) (fun _ _ _ h => h) (Or.inl ⟨by rfl, ?_⟩) ?_ ?_
      rotate_left
      ·intro w'
       go_simp
       with_reducible rfl
      rotate_left
      ·simp only [Act.put, List.setIfInBounds_toArray, List.set_cons_zero, List.set_cons_succ, i64_w, i32_w]
       rfl
      refine pure_ (i := 5) (N := some 33) (v := ?_) (a' := ?_) #[true, true, true, true, true, true, false, false, false, false, false, false, false] rfl rfl (any_of HT_.out (by kernel_rfl)) (fun _ _ _ h => h) (Or.inl ⟨by rfl, ?_⟩) ?_ ?_
      rotate_left
      ·intro w'
       go_simp
       with_reducible rfl
      rotate_left
      ·simp only [Act.put, List.setIfInBounds_toArray, List.set_cons_zero, List.set_cons_succ, i64_w, i32_w]
       rfl
      refine pure_ (i := 6) (N := some 34) (v := ?_) (a' := ?_) #[true, true, true, true, true, true, true, false, false, false, false, false, false] rfl rfl (any_of HT_.out (by kernel_rfl)) (fun _ _ _ h => h) (Or.inl ⟨by rfl, ?_⟩) ?_ ?_
      rotate_left
      ·intro w'
       go_simp
       with_reducible rfl
      rotate_left
      ·simp only [Act.put, List.setIfInBounds_toArray, List.set_cons_zero, List.set_cons_succ, i64_w, i32_w]
       rfl
      refine pure_ (i := 7) (N := some 35) (v := ?_) (a' := ?_) #[true, true, true, true, true, true, true, true, false, false, false, false, false] rfl rfl (any_of HT_.out (by kernel_rfl)) (fun _ _ _ h => h) (Or.inl ⟨by rfl, ?_⟩) ?_ ?_
      rotate_left
      ·intro w'
       go_simp
       with_reducible rfl
      rotate_left
      ·simp only [Act.put, List.setIfInBounds_toArray, List.set_cons_zero, List.set_cons_succ, i64_w, i32_w]
       rfl
      refine pure_ (i := 8) (N := some 36) (v := ?_) (a' := ?_) #[true, true, true, true, true, true, true, true, true, false, false, false, false] rfl rfl (any_of HT_.out (by kernel_rfl)) (fun _ _ _ h => h) (Or.inl ⟨by rfl, ?_⟩) ?_ ?_
      rotate_left
      ·intro w'
       go_simp
       with_reducible rfl
      rotate_left
      ·simp only [Act.put, List.setIfInBounds_toArray, List.set_cons_zero, List.set_cons_succ, i64_w, i32_w]
       rfl
      refine pure_ (i := 9) (N := some 37) (v := ?_) (a' := ?_) #[true, true, true, true, true, true, true, true, true, true, false, false, false] rfl rfl (any_of HT_.out (by kernel_rfl)) (fun _ _ _ h => h) (Or.inl ⟨by rfl, ?_⟩) ?_ ?_
      rotate_left
      ·intro w'
       go_simp
       with_reducible rfl
      rotate_left
      ·simp only [Act.put, List.setIfInBounds_toArray, List.set_cons_zero, List.set_cons_succ, i64_w, i32_w]
       rfl
      refine one_ (i := 10) (N := some 38) #[true, true, true, true, true, true, true, true, true, true, true, false, false] rfl rfl (one_of HT_.out (by kernel_rfl)) (by decide) (fun K hK => ?_)
      refine goes_ Tryd.func53 (by kernel_rfl) rfl #[.string (t156.extract 1 ((wrap64 ((t156.size : Int) - 1)) : Int).toNat)] (by rfl) rfl rfl (by (try simp only [List.map_toArray, List.map_cons, List.map_nil]); first | done | rfl | (simp only [List.length_drop, List.length_take]; rfl)) ?_
      with_reducible refine (reveilleref5_section.calls kj3 (t156.extract 1 ((wrap64 ((t156.size : Int) - 1)) : Int).toNat) t157 _ A19.out).mono ?_
      rintro e w' ⟨rfl, ⟨nd, rfl⟩⟩
      refine ⟨_, rfl, ?_⟩
      refine hK.out _ _ trivial (fun hHeld => ?_)
      clear hK K
      refine norm_ (a' := ?_) ?_ ?_
      rotate_left
      ·show Act.put _ (some 38) _ = _
       simp only [Act.put, List.setIfInBounds_toArray, List.set_cons_zero, List.set_cons_succ, i64_w, i32_w]
       rfl
      refine one_ (i := 11) (N := none) #[true, true, true, true, true, true, true, true, true, true, true, true, false] rfl rfl (one_of HT_.out (by kernel_rfl)) (by decide) (fun K hK => ?_)
      have hs21 : w20.cell? ⟨gb155, 0, none⟩ = some (.int .i64 0) := (blk_cell BK155.out 0).trans rfl
      have hfs21 := blk_frozen BK155.out 0
      have hs22 : w20.cell? ⟨gb155, 1, none⟩ = some (.string (⟨#[]⟩ : ByteArray)) := (blk_cell BK155.out 1).trans rfl
      have hfs22 := blk_frozen BK155.out 1
      have hs23 : w20.cell? ⟨gb155, 2, none⟩ = some (.string (⟨#[]⟩ : ByteArray)) := (blk_cell BK155.out 2).trans rfl
      have hfs23 := blk_frozen BK155.out 2
      have hs24 : w20.cell? ⟨gb155, 3, none⟩ = some (.int .i64 0) := (blk_cell BK155.out 3).trans rfl
      have hfs24 := blk_frozen BK155.out 3
      refine skip_ (w1 := ?_) (by rfl) rfl ?_ ?_
      rotate_left
      ·go_simp
       rfl
      refine hK.out _ _ trivial (fun hHeld => ?_)
      clear hK K
      refine pure_ (i := 12) (N := some 5) (v := ?_) (a' := ?_) #[true, true, true, true, true, true, true, true, true, true, true, true, true] rfl rfl (any_of HT_.out (by kernel_rfl)) (fun _ _ _ h => h) (Or.inl ⟨by rfl, ?_⟩) ?_ ?_
      rotate_left
      ·intro w'
       go_simp
       with_reducible rfl
      rotate_left
      ·simp only [Act.put, List.setIfInBounds_toArray, List.set_cons_zero, List.set_cons_succ, i64_w, i32_w]
       rfl
      refine done_ (done_of HT_.out (by kernel_rfl)) ?_
      try go_wp2
      refine bodyPost_ret (results_ct rfl _ _ gb155 60 #[.int .i64 1, .string (t156.extract 1 ((wrap64 ((t156.size : Int) - 1)) : Int).toNat), .string (⟨#[]⟩ : ByteArray), .int .i64 a1] (0, 0) _ rfl (by (with_reducible repeat (first | refine blk_drewN ?_ _ | refine blk_drew ?_ | refine blk_alloc ?_ _)); refine blk_put (cs := #[.int .i64 1, .string (t156.extract 1 ((wrap64 ((t156.size : Int) - 1)) : Int).toNat), .string (⟨#[]⟩ : ByteArray), .int .i64 0]) ?_ 3 _ rfl; (with_reducible repeat (first | refine blk_drewN ?_ _ | refine blk_drew ?_ | refine blk_alloc ?_ _)); refine blk_put (cs := #[.int .i64 1, .string (t156.extract 1 ((wrap64 ((t156.size : Int) - 1)) : Int).toNat), .string (⟨#[]⟩ : ByteArray), .int .i64 0]) ?_ 2 _ rfl; (with_reducible repeat (first | refine blk_drewN ?_ _ | refine blk_drew ?_ | refine blk_alloc ?_ _)); refine blk_put (cs := #[.int .i64 1, .string (⟨#[]⟩ : ByteArray), .string (⟨#[]⟩ : ByteArray), .int .i64 0]) ?_ 1 _ rfl; (with_reducible repeat (first | refine blk_drewN ?_ _ | refine blk_drew ?_ | refine blk_alloc ?_ _)); refine blk_put (cs := #[.int .i64 0, .string (⟨#[]⟩ : ByteArray), .string (⟨#[]⟩ : ByteArray), .int .i64 0]) ?_ 0 _ rfl; (with_reducible repeat (first | refine blk_drewN ?_ _ | refine blk_drew ?_ | refine blk_alloc ?_ _)); exact BK155.out) Tryd.underlying60 rfl (by kernel_rfl)) rfl ?_
      exact ⟨by first | rfl | (simp [errW_none, errW_some] <;> rfl) | (simp [*, errW_none, errW_some] <;> rfl), by repeat (first | (with_reducible first | exact HB.out | apply below_alloc | apply pw_below_drewN | apply below_drew1 | refine below_set ?_ GE155.out) | exact HB.out)⟩
     ·rw [if_neg c16] at H
      exact absurd H (by simp)
    ·rw [if_neg c15] at H
     exact absurd H (by simp)
   ·replace c14 := Bool.eq_false_iff.mpr c14
    subst c14
    have H1 : (reveilleref5_line.l0 kj3 a1 t156 (t156.size : Int) 0) = some (r1, r2, r3, r4, r5) := by rw [if_neg (show ¬ (false = true) by decide)] at H; exact H
    clear H
    have H := H1
    clear H1
    have H' := Aside0.mk H
    clear H
    go_wp2
    go_loopg [8] kj3 (fun kq v8 w' => ∃ (x8_2 : Int) (x156000_2 : Int) (x156001_2 : ByteArray) (x156002_2 : ByteArray) (x156003_2 : Int), v8 = .int .i64 x8_2 ∧ Aside0 (reveilleref5_line.l0 kq a1 t156 (t156.size : Int) x8_2 = some (r1, r2, r3, r4, r5)) ∧ Aside0 (kq ≤ kj3) ∧ Aside0 (w'.heap[gb155]? = some (.cells #[.int .i64 x156000_2, .string x156001_2, .string x156002_2, .int .i64 x156003_2] 60 (0, 0))) ∧ Aside0 (Below w.heap.size w w'))
    case atStart => exact ⟨(0), (0), ((⟨#[]⟩ : ByteArray)), ((⟨#[]⟩ : ByteArray)), (0), (by first | rfl | (simp; done) | (simp [*]; done)), H', ⟨Nat.le_refl _⟩, ⟨by (with_reducible repeat (first | refine blk_drewN ?_ _ | refine blk_drew ?_ | refine blk_alloc ?_ _)); exact BK155.out⟩, ⟨by repeat (first | (with_reducible first | exact HB.out | apply below_alloc | apply pw_below_drewN | apply below_drew1 | refine below_set ?_ GE155.out) | exact HB.out)⟩⟩
    case round =>
     clear H'
     try clear c1
     try clear p1
     try clear q1
     try clear hx1
     try clear p2
     try clear c3
     try clear c5
     try clear c6
     try clear c6b0
     try clear c6b1
     try clear p6
     try clear c7
     try clear c7b0
     try clear c7b1
     try clear p8
     try clear q8
     try clear hx8
     try clear qi8
     try clear c9
     try clear c9b0
     try clear c9b1
     try clear c11
     try clear c11b0
     try clear c12
     try clear c12b0
     try clear p13
     try clear q13
     try clear hx13
     try clear c14
     try clear c15
     try clear c15b0
     try clear c15b1
     try clear c16
     try clear c16b0
     try clear c16b1
     try clear c17
     try clear c17b0
     try clear c18
     try clear c18b0
     try clear p1
     try clear p13
     try clear p2
     try clear p6
     try clear p8
     try clear q1
     try clear q13
     try clear q8
     obtain ⟨x8_2, x156000_2, x156001_2, x156002_2, x156003_2, rfl, HA, HK2, BK155, HB⟩ := hrel
     cases gk with
     | zero => exact absurd HA.out (by simp [reveilleref5_line.l0])
     | succ k2 =>
      have H := HA.out
      clear HA
      simp only [reveilleref5_line.l0] at H
      by_cases c25 : x8_2 < (t156.size : Int)
      ·rw [if_pos c25] at H
       have c25b0 : decide (x8_2 < (t156.size : Int)) = true := decide_eq_true c25
       clear c25
       by_cases c26 : 0 ≤ x8_2
       ·rw [if_pos c26] at H
        have c26b0 : decide (0 ≤ x8_2) = true := decide_eq_true c26
        clear c26
        by_cases c27 : x8_2 < (t156.size : Int)
        ·rw [if_pos c27] at H
         have c27b0 : decide (x8_2 < (t156.size : Int)) = true := decide_eq_true c27
         clear c27
         by_cases c29 : (bt t156 x8_2) = 61
         ·rw [if_pos c29] at H
          have c29b0 : ((bt t156 x8_2) == 61) = true := beq_iff_eq.mpr c29
          have c29b1 : ((bt t156 x8_2) != 61) = false := bne_eq_false_iff_eq.mpr c29
          clear c29
          have c30b0 := eq_true (of_decide_eq_true (by first | (with_reducible assumption) | assumption) : 0 ≤ x8_2)
          by_cases c31 : x8_2 ≤ (t156.size : Int)
          ·rw [if_pos c31] at H
           have c31b0 := eq_true c31
           have c31b1 : decide (x8_2 ≤ (t156.size : Int)) = true := decide_eq_true c31
           clear c31
           replace H := Option.bind_eq_some_iff.mp H
           obtain ⟨t158, A320, H⟩ := H
           replace H : (if 0 ≤ (wrap64 (x8_2 + 1)) then (if (wrap64 (x8_2 + 1)) ≤ (t156.size : Int) then ((reveilleref5_Trim.f k2 (t156.extract ((wrap64 (x8_2 + 1)) : Int).toNat t156.size)).bind fun t159 => ((reveilleref5_key.f k2 t158).bind fun t160 => (some (2, t158, t159, a1, t160)))) else (none)) else (none)) = some (r1, r2, r3, r4, r5) := H
           have A32 := Aside0.mk A320
           clear A320
           obtain ⟨ji33, hji33⟩ : ∃ j_ : Int, (wrap64 (x8_2 + 1)) = j_ := ⟨_, rfl⟩
           replace H : (if 0 ≤ (ji33) then (if (ji33) ≤ (t156.size : Int) then ((reveilleref5_Trim.f k2 (t156.extract ((ji33) : Int).toNat t156.size)).bind fun t159 => ((reveilleref5_key.f k2 t158).bind fun t160 => (some (2, t158, t159, a1, t160)))) else (none)) else (none)) = some (r1, r2, r3, r4, r5) := by first | (rw [hji33] at H; exact H) | (simp only [hji33] at H ⊢; exact H)
           (try rw [hji33] at A32)
           have hji33w : (IntKind.i64.wrap (x8_2 + 1)) = ji33 := (i64_w _).trans hji33
           by_cases c34 : 0 ≤ (ji33)
           ·rw [if_pos c34] at H
            have c34b0 := eq_true c34
            have c34b1 : decide (0 ≤ (ji33)) = true := decide_eq_true c34
            clear c34
            by_cases c35 : (ji33) ≤ (t156.size : Int)
            ·rw [if_pos c35] at H
             have c35b0 := eq_true c35
             have c35b1 : decide ((ji33) ≤ (t156.size : Int)) = true := decide_eq_true c35
             clear c35
             replace H := Option.bind_eq_some_iff.mp H
             obtain ⟨t159, A360, H⟩ := H
             replace H : ((reveilleref5_key.f k2 t158).bind fun t160 => (some (2, t158, t159, a1, t160))) = some (r1, r2, r3, r4, r5) := H
             have A36 := Aside0.mk A360
             clear A360
             replace H := Option.bind_eq_some_iff.mp H
             obtain ⟨t160, A370, H⟩ := H
             replace H : (some (2, t158, t159, a1, t160)) = some (r1, r2, r3, r4, r5) := H
             have A37 := Aside0.mk A370
             clear A370
             simp only [Option.some.injEq, Prod.mk.injEq] at H
             obtain ⟨rfl, rfl, rfl, rfl, rfl⟩ := H
             have p28 : 0 ≤ (x8_2 : Int) := of_decide_eq_true (by first | (with_reducible assumption) | assumption)
             have q28 : x8_2 < (t156.size : Int) := of_decide_eq_true (by first | (with_reducible assumption) | assumption)
             have hx28 := bt_at t156 x8_2
             replace p28 := eq_true p28
             replace q28 := eq_true q28
             go_wp2_with (first | ((with_reducible refine gate_callee (f := 36) rfl ?_); refine goesL_ (some 51) rfl rfl Tryd.func36 (by kernel_rfl) rfl #[.string (t156.extract 0 (x8_2 : Int).toNat)] rfl (by (try simp only [List.map_toArray, List.map_cons, List.map_nil]); first | done | rfl | (simp only [List.length_drop, List.length_take]; rfl)) ?_; (with_reducible refine (reveilleref5_Trim.calls k2 (t156.extract 0 (x8_2 : Int).toNat) t158 _ A32.out).mono ?_); rintro e w' ⟨rfl, ⟨nd, rfl⟩⟩; refine ⟨_, rfl, ?_⟩; (try (rw [drewN_self wr]; generalize hq_ : World.drewN wr _ = wr; have n0_ : Aside0 (wr.heap[gb155]? = some (.cells #[.int .i64 x156000_2, .string x156001_2, .string x156002_2, .int .i64 x156003_2] 60 (0, 0))) := ⟨by rw [← hq_]; exact (by (with_reducible repeat (first | refine blk_drewN ?_ _ | refine blk_drew ?_ | refine blk_alloc ?_ _)); exact BK155.out)⟩; have n1_ : Aside0 (Below w.heap.size w wr) := ⟨by rw [← hq_]; exact (by repeat (first | (with_reducible first | exact HB.out | apply below_alloc | apply pw_below_drewN | apply below_drew1 | refine below_set ?_ GE155.out) | exact HB.out))⟩; clear BK155 HB hq_; have BK155 := n0_; have HB := n1_; clear n0_ n1_))) | ((with_reducible refine gate_callee (f := 36) rfl ?_); refine goesL_ (some 57) rfl rfl Tryd.func36 (by kernel_rfl) rfl #[.string (t156.extract ((ji33) : Int).toNat t156.size)] rfl (by (try simp only [List.map_toArray, List.map_cons, List.map_nil]); first | done | (simp only [hji33]; rfl) | rfl | (simp only [List.length_drop, List.length_take]; rfl)) ?_; (with_reducible refine (reveilleref5_Trim.calls k2 (t156.extract ((ji33) : Int).toNat t156.size) t159 _ A36.out).mono ?_); rintro e w' ⟨rfl, ⟨nd, rfl⟩⟩; refine ⟨_, rfl, ?_⟩; (try (rw [drewN_self wr]; generalize hq_ : World.drewN wr _ = wr; have n0_ : Aside0 (wr.heap[gb155]? = some (.cells #[.int .i64 x156000_2, .string x156001_2, .string x156002_2, .int .i64 x156003_2] 60 (0, 0))) := ⟨by rw [← hq_]; exact (by (with_reducible repeat (first | refine blk_drewN ?_ _ | refine blk_drew ?_ | refine blk_alloc ?_ _)); exact BK155.out)⟩; have n1_ : Aside0 (Below w.heap.size w wr) := ⟨by rw [← hq_]; exact (by repeat (first | (with_reducible first | exact HB.out | apply below_alloc | apply pw_below_drewN | apply below_drew1 | refine below_set ?_ GE155.out) | exact HB.out))⟩; clear BK155 HB hq_; have BK155 := n0_; have HB := n1_; clear n0_ n1_))) | ((with_reducible refine gate_callee (f := 54) rfl ?_); refine goesL_ (some 61) rfl rfl Tryd.func54 (by kernel_rfl) rfl #[.string t158] rfl (by (try simp only [List.map_toArray, List.map_cons, List.map_nil]); first | done | rfl | (simp only [List.length_drop, List.length_take]; rfl)) ?_; (with_reducible refine (reveilleref5_key.calls k2 t158 t160 _ A37.out).mono ?_); rintro e w' ⟨rfl, ⟨nd, rfl⟩⟩; refine ⟨_, rfl, ?_⟩; (try (rw [drewN_self wr]; generalize hq_ : World.drewN wr _ = wr; have n0_ : Aside0 (wr.heap[gb155]? = some (.cells #[.int .i64 x156000_2, .string x156001_2, .string x156002_2, .int .i64 x156003_2] 60 (0, 0))) := ⟨by rw [← hq_]; exact (by (with_reducible repeat (first | refine blk_drewN ?_ _ | refine blk_drew ?_ | refine blk_alloc ?_ _)); exact BK155.out)⟩; have n1_ : Aside0 (Below w.heap.size w wr) := ⟨by rw [← hq_]; exact (by repeat (first | (with_reducible first | exact HB.out | apply below_alloc | apply pw_below_drewN | apply below_drew1 | refine below_set ?_ GE155.out) | exact HB.out))⟩; clear BK155 HB hq_; have BK155 := n0_; have HB := n1_; clear n0_ n1_)); have hcz38_0 : wr.cell? ⟨gb155, 0, none⟩ = some (.int .i64 x156000_2) := (blk_cell BK155.out 0).trans rfl; have hcz38_1 : wr.cell? ⟨gb155, 1, none⟩ = some (.string x156001_2) := (blk_cell BK155.out 1).trans rfl; have hcz38_2 : wr.cell? ⟨gb155, 2, none⟩ = some (.string x156002_2) := (blk_cell BK155.out 2).trans rfl; have hcz38_3 : wr.cell? ⟨gb155, 3, none⟩ = some (.int .i64 x156003_2) := (blk_cell BK155.out 3).trans rfl; have hfz38_0 := blk_frozen BK155.out 0; have hfz38_1 := blk_frozen BK155.out 1; have hfz38_2 := blk_frozen BK155.out 2; have hfz38_3 := blk_frozen BK155.out 3))
             refine bodyPost_ret (results_ct rfl _ _ gb155 60 #[.int .i64 2, .string t158, .string t159, .int .i64 a1] (0, 0) _ rfl (by (with_reducible repeat (first | refine blk_drewN ?_ _ | refine blk_drew ?_ | refine blk_alloc ?_ _)); refine blk_put (cs := #[.int .i64 2, .string t158, .string t159, .int .i64 x156003_2]) ?_ 3 _ rfl; (with_reducible repeat (first | refine blk_drewN ?_ _ | refine blk_drew ?_ | refine blk_alloc ?_ _)); refine blk_put (cs := #[.int .i64 2, .string t158, .string x156002_2, .int .i64 x156003_2]) ?_ 2 _ rfl; (with_reducible repeat (first | refine blk_drewN ?_ _ | refine blk_drew ?_ | refine blk_alloc ?_ _)); refine blk_put (cs := #[.int .i64 2, .string x156001_2, .string x156002_2, .int .i64 x156003_2]) ?_ 1 _ rfl; (with_reducible repeat (first | refine blk_drewN ?_ _ | refine blk_drew ?_ | refine blk_alloc ?_ _)); refine blk_put (cs := #[.int .i64 x156000_2, .string x156001_2, .string x156002_2, .int .i64 x156003_2]) ?_ 0 _ rfl; (with_reducible repeat (first | refine blk_drewN ?_ _ | refine blk_drew ?_ | refine blk_alloc ?_ _)); exact BK155.out) Tryd.underlying60 rfl (by kernel_rfl)) rfl ?_
             exact ⟨by first | rfl | (simp [errW_none, errW_some] <;> rfl) | (simp only [← hji33]; first | rfl | (simp [errW_none, errW_some] <;> rfl)) | (simp [*, errW_none, errW_some] <;> rfl), by repeat (first | (with_reducible first | exact HB.out | apply below_alloc | apply pw_below_drewN | apply below_drew1 | refine below_set ?_ GE155.out) | exact HB.out)⟩
            ·rw [if_neg c35] at H
             exact absurd H (by simp)
           ·rw [if_neg c34] at H
            exact absurd H (by simp)
          ·rw [if_neg c31] at H
           exact absurd H (by simp)
         ·rw [if_neg c29] at H
          have c29b0 : ((bt t156 x8_2) == 61) = false := beq_eq_false_iff_ne.mpr c29
          have c29b1 : ((bt t156 x8_2) != 61) = true := bne_iff_ne.mpr c29
          have H' := Aside0.mk H
          clear H
          have p28 : 0 ≤ (x8_2 : Int) := of_decide_eq_true (by first | (with_reducible assumption) | assumption)
          have q28 : x8_2 < (t156.size : Int) := of_decide_eq_true (by first | (with_reducible assumption) | assumption)
          have hx28 := bt_at t156 x8_2
          replace p28 := eq_true p28
          replace q28 := eq_true q28
          go_wp2
          go_roundg k2
          case measure => have := HJ3.out; have := HK2.out; omega
          case rel => exact ⟨(wrap64 (x8_2 + 1)), (x156000_2), (x156001_2), (x156002_2), (x156003_2), (by first | rfl | (simp; done) | (simp [*]; done)), H', ⟨by have := HJ3.out; have := HK2.out; omega⟩, ⟨by (with_reducible repeat (first | refine blk_drewN ?_ _ | refine blk_drew ?_ | refine blk_alloc ?_ _)); exact BK155.out⟩, ⟨by repeat (first | (with_reducible first | exact HB.out | apply below_alloc | apply pw_below_drewN | apply below_drew1 | refine below_set ?_ GE155.out) | exact HB.out)⟩⟩
        ·rw [if_neg c27] at H
         exact absurd H (by simp)
       ·rw [if_neg c26] at H
        exact absurd H (by simp)
      ·rw [if_neg c25] at H
       have c25b0 : decide (x8_2 < (t156.size : Int)) = false := decide_eq_false c25
       clear c25
       simp only [Option.some.injEq, Prod.mk.injEq] at H
       obtain ⟨rfl, rfl, rfl, rfl, rfl⟩ := H
       have hcz39_0 : wr.cell? ⟨gb155, 0, none⟩ = some (.int .i64 x156000_2) := (blk_cell BK155.out 0).trans rfl
       have hcz39_1 : wr.cell? ⟨gb155, 1, none⟩ = some (.string x156001_2) := (blk_cell BK155.out 1).trans rfl
       have hcz39_2 : wr.cell? ⟨gb155, 2, none⟩ = some (.string x156002_2) := (blk_cell BK155.out 2).trans rfl
       have hcz39_3 : wr.cell? ⟨gb155, 3, none⟩ = some (.int .i64 x156003_2) := (blk_cell BK155.out 3).trans rfl
       have hfz39_0 := blk_frozen BK155.out 0
       have hfz39_1 := blk_frozen BK155.out 1
       have hfz39_2 := blk_frozen BK155.out 2
       have hfz39_3 := blk_frozen BK155.out 3
       go_wp2
       refine bodyPost_ret (results_ct rfl _ _ gb155 60 #[.int .i64 0, .string (⟨#[]⟩ : ByteArray), .string (⟨#[]⟩ : ByteArray), .int .i64 0] (0, 0) _ rfl (by (with_reducible repeat (first | refine blk_drewN ?_ _ | refine blk_drew ?_ | refine blk_alloc ?_ _)); refine blk_put (cs := #[.int .i64 0, .string (⟨#[]⟩ : ByteArray), .string (⟨#[]⟩ : ByteArray), .int .i64 x156003_2]) ?_ 3 _ rfl; (with_reducible repeat (first | refine blk_drewN ?_ _ | refine blk_drew ?_ | refine blk_alloc ?_ _)); refine blk_put (cs := #[.int .i64 0, .string (⟨#[]⟩ : ByteArray), .string x156002_2, .int .i64 x156003_2]) ?_ 2 _ rfl; (with_reducible repeat (first | refine blk_drewN ?_ _ | refine blk_drew ?_ | refine blk_alloc ?_ _)); refine blk_put (cs := #[.int .i64 0, .string x156001_2, .string x156002_2, .int .i64 x156003_2]) ?_ 1 _ rfl; (with_reducible repeat (first | refine blk_drewN ?_ _ | refine blk_drew ?_ | refine blk_alloc ?_ _)); refine blk_put (cs := #[.int .i64 x156000_2, .string x156001_2, .string x156002_2, .int .i64 x156003_2]) ?_ 0 _ rfl; (with_reducible repeat (first | refine blk_drewN ?_ _ | refine blk_drew ?_ | refine blk_alloc ?_ _)); exact BK155.out) Tryd.underlying60 rfl (by kernel_rfl)) rfl ?_
       exact ⟨by first | rfl | (simp [errW_none, errW_some] <;> rfl) | (simp [*, errW_none, errW_some] <;> rfl), by repeat (first | (with_reducible first | exact HB.out | apply below_alloc | apply pw_below_drewN | apply below_drew1 | refine below_set ?_ GE155.out) | exact HB.out)⟩


/-! ### reveilleref5_Lines: function 25 -/
mutual
def reveilleref5_Lines.l0 : Nat → List ByteArray → List (S60) → Int → Option ((List (S60)) × Int × Int)
 | 0, _, _, _ => none
 | k + 1, x5, x6, x7 => if x7 < (x5.length : Int) then (if 0 ≤ x7 then ((reveilleref5_Trim.f k (rdOf ByteArray.empty x5 x7)).bind fun t165 => (if t165.toList = ([] : List UInt8) then (reveilleref5_Lines.j1 k x5 x6 x7 true) else (if 0 < (t165.size : Int) then (if (bt t165 0) = 35 then (reveilleref5_Lines.j1 k x5 x6 x7 true) else (reveilleref5_Lines.j1 k x5 x6 x7 ((bt t165 0) == 59))) else (none)))) else (none)) else (some (x6, 0, 0))
def reveilleref5_Lines.j1 : Nat → List ByteArray → List (S60) → Int → Bool → Option ((List (S60)) × Int × Int)
 | 0, _, _, _, _ => none
 | k + 1, x5, x6, x7, x40 => if x40 = true then (reveilleref5_Lines.l0 k x5 x6 (wrap64 (x7 + 1))) else (if 0 ≤ x7 then (if x7 < (x5.length : Int) then (reveilleref5_Lines.l1 k x5 x6 x7 (wrap64 (x7 + 1)) (rdOf ByteArray.empty x5 x7)) else (none)) else (none))
def reveilleref5_Lines.j4 : Nat → List ByteArray → List (S60) → Int → Int → ByteArray → Option ((List (S60)) × Int × Int)
 | 0, _, _, _, _, _ => none
 | k + 1, x5, x6, x7, x9, x10 => if (x10.size : Int) > 400 then (some (([] : List (S60)), x9, 51)) else ((reveilleref5_line.f k x10 x9).bind fun bt168 => (if bt168.2.2.2.2 = true then (if x6.length < 2932031007402 then (reveilleref5_Lines.l0 k x5 (x6 ++ [(⟨bt168.1, bt168.2.1, bt168.2.2.1, bt168.2.2.2.1⟩ : S60)]) (wrap64 (x7 + 1))) else (none)) else (some (([] : List (S60)), x9, 50))))
def reveilleref5_Lines.l1 : Nat → List ByteArray → List (S60) → Int → Int → ByteArray → Option ((List (S60)) × Int × Int)
 | 0, _, _, _, _, _ => none
 | k + 1, x5, x6, x7, x9, x10 => if (x10.size : Int) > 0 then (if 0 ≤ (wrap64 ((x10.size : Int) - 1)) then (if (wrap64 ((x10.size : Int) - 1)) < (x10.size : Int) then (reveilleref5_Lines.j3 k x5 x6 x7 x9 x10 ((bt x10 (wrap64 ((x10.size : Int) - 1))) == 92)) else (none)) else (none)) else (reveilleref5_Lines.j3 k x5 x6 x7 x9 x10 false)
def reveilleref5_Lines.j3 : Nat → List ByteArray → List (S60) → Int → Int → ByteArray → Bool → Option ((List (S60)) × Int × Int)
 | 0, _, _, _, _, _, _ => none
 | k + 1, x5, x6, x7, x9, x10, x57 => if x57 = true then (if 0 ≤ (wrap64 ((x10.size : Int) - 1)) then (if (wrap64 ((x10.size : Int) - 1)) ≤ (x10.size : Int) then (if (x10.extract 0 ((wrap64 ((x10.size : Int) - 1)) : Int).toNat).size + 1 ≤ 9223372036854775807 then (if (wrap64 (x7 + 1)) = (x5.length : Int) then (reveilleref5_Lines.j4 k x5 x6 x7 x9 ((x10.extract 0 ((wrap64 ((x10.size : Int) - 1)) : Int).toNat) ++ (⟨#[32]⟩ : ByteArray))) else (if 0 ≤ (wrap64 (x7 + 1)) then (if (wrap64 (x7 + 1)) < (x5.length : Int) then (if ((x10.extract 0 ((wrap64 ((x10.size : Int) - 1)) : Int).toNat) ++ (⟨#[32]⟩ : ByteArray)).size + (rdOf ByteArray.empty x5 (wrap64 (x7 + 1))).size ≤ 9223372036854775807 then (reveilleref5_Lines.l1 k x5 x6 (wrap64 (x7 + 1)) x9 (((x10.extract 0 ((wrap64 ((x10.size : Int) - 1)) : Int).toNat) ++ (⟨#[32]⟩ : ByteArray)) ++ (rdOf ByteArray.empty x5 (wrap64 (x7 + 1))))) else (none)) else (none)) else (none))) else (none)) else (none)) else (none)) else (reveilleref5_Lines.j4 k x5 x6 x7 x9 x10)
end
def reveilleref5_Lines.f (k : Nat) (a0 : ByteArray) : Option ((List (S60)) × Int × Int) := if (a0.size : Int) > 4000 then (some (([] : List (S60)), 0, 51)) else ((reveilleref5_raw.f k a0).bind fun t161 => (reveilleref5_Lines.l0 k t161 ([] : List (S60)) 0))
theorem reveilleref5_Lines.mono_l : ∀ k, (∀ y0 y1 y2, LeO (reveilleref5_Lines.l0 k y0 y1 y2) (reveilleref5_Lines.l0 (k + 1) y0 y1 y2)) ∧ (∀ y0 y1 y2 y3, LeO (reveilleref5_Lines.j1 k y0 y1 y2 y3) (reveilleref5_Lines.j1 (k + 1) y0 y1 y2 y3)) ∧ (∀ y0 y1 y2 y3 y4, LeO (reveilleref5_Lines.j4 k y0 y1 y2 y3 y4) (reveilleref5_Lines.j4 (k + 1) y0 y1 y2 y3 y4)) ∧ (∀ y0 y1 y2 y3 y4, LeO (reveilleref5_Lines.l1 k y0 y1 y2 y3 y4) (reveilleref5_Lines.l1 (k + 1) y0 y1 y2 y3 y4)) ∧ (∀ y0 y1 y2 y3 y4 y5, LeO (reveilleref5_Lines.j3 k y0 y1 y2 y3 y4 y5) (reveilleref5_Lines.j3 (k + 1) y0 y1 y2 y3 y4 y5))
 | 0 => ⟨fun _ _ _ r h => by simp [reveilleref5_Lines.l0] at h, fun _ _ _ _ r h => by simp [reveilleref5_Lines.j1] at h, fun _ _ _ _ _ r h => by simp [reveilleref5_Lines.j4] at h, fun _ _ _ _ _ r h => by simp [reveilleref5_Lines.l1] at h, fun _ _ _ _ _ _ r h => by simp [reveilleref5_Lines.j3] at h⟩
 | k + 1 => by
  obtain ⟨ih0, ih1, ih2, ih3, ih4⟩ := reveilleref5_Lines.mono_l k
  refine ⟨?_, ?_, ?_, ?_, ?_⟩
  ·intro y0 y1 y2
   unfold reveilleref5_Lines.l0
   repeat' first
   | (with_reducible exact ih0 _ _ _)
   | (with_reducible exact ih1 _ _ _ _)
   | (with_reducible exact ih2 _ _ _ _ _)
   | (with_reducible exact ih3 _ _ _ _ _)
   | (with_reducible exact ih4 _ _ _ _ _ _)
   | (with_reducible exact reveilleref5_Trim.mono _ _)
   | (with_reducible exact reveilleref5_line.mono _ _ _)
   | (with_reducible exact reveilleref5_raw.mono _ _)
   | (with_reducible exact LeO.refl _)
   | (with_reducible exact LeO.none _)
   | (with_reducible refine LeO.ite ?_ ?_)
   | (with_reducible refine LeO.bind ?_ (fun _ => ?_))
   | exact ih0 _ _ _
   | exact ih1 _ _ _ _
   | exact ih2 _ _ _ _ _
   | exact ih3 _ _ _ _ _
   | exact ih4 _ _ _ _ _ _
   | exact reveilleref5_Trim.mono _ _
   | exact reveilleref5_line.mono _ _ _
   | exact reveilleref5_raw.mono _ _
   | exact LeO.none _
   | refine LeO.ite ?_ ?_
   | refine LeO.bind ?_ (fun _ => ?_)
  ·intro y0 y1 y2 y3
   unfold reveilleref5_Lines.j1
   repeat' first
   | (with_reducible exact ih0 _ _ _)
   | (with_reducible exact ih1 _ _ _ _)
   | (with_reducible exact ih2 _ _ _ _ _)
   | (with_reducible exact ih3 _ _ _ _ _)
   | (with_reducible exact ih4 _ _ _ _ _ _)
   | (with_reducible exact reveilleref5_Trim.mono _ _)
   | (with_reducible exact reveilleref5_line.mono _ _ _)
   | (with_reducible exact reveilleref5_raw.mono _ _)
   | (with_reducible exact LeO.refl _)
   | (with_reducible exact LeO.none _)
   | (with_reducible refine LeO.ite ?_ ?_)
   | (with_reducible refine LeO.bind ?_ (fun _ => ?_))
   | exact ih0 _ _ _
   | exact ih1 _ _ _ _
   | exact ih2 _ _ _ _ _
   | exact ih3 _ _ _ _ _
   | exact ih4 _ _ _ _ _ _
   | exact reveilleref5_Trim.mono _ _
   | exact reveilleref5_line.mono _ _ _
   | exact reveilleref5_raw.mono _ _
   | exact LeO.none _
   | refine LeO.ite ?_ ?_
   | refine LeO.bind ?_ (fun _ => ?_)
  ·intro y0 y1 y2 y3 y4
   unfold reveilleref5_Lines.j4
   repeat' first
   | (with_reducible exact ih0 _ _ _)
   | (with_reducible exact ih1 _ _ _ _)
   | (with_reducible exact ih2 _ _ _ _ _)
   | (with_reducible exact ih3 _ _ _ _ _)
   | (with_reducible exact ih4 _ _ _ _ _ _)
   | (with_reducible exact reveilleref5_Trim.mono _ _)
   | (with_reducible exact reveilleref5_line.mono _ _ _)
   | (with_reducible exact reveilleref5_raw.mono _ _)
   | (with_reducible exact LeO.refl _)
   | (with_reducible exact LeO.none _)
   | (with_reducible refine LeO.ite ?_ ?_)
   | (with_reducible refine LeO.bind ?_ (fun _ => ?_))
   | exact ih0 _ _ _
   | exact ih1 _ _ _ _
   | exact ih2 _ _ _ _ _
   | exact ih3 _ _ _ _ _
   | exact ih4 _ _ _ _ _ _
   | exact reveilleref5_Trim.mono _ _
   | exact reveilleref5_line.mono _ _ _
   | exact reveilleref5_raw.mono _ _
   | exact LeO.none _
   | refine LeO.ite ?_ ?_
   | refine LeO.bind ?_ (fun _ => ?_)
  ·intro y0 y1 y2 y3 y4
   unfold reveilleref5_Lines.l1
   repeat' first
   | (with_reducible exact ih0 _ _ _)
   | (with_reducible exact ih1 _ _ _ _)
   | (with_reducible exact ih2 _ _ _ _ _)
   | (with_reducible exact ih3 _ _ _ _ _)
   | (with_reducible exact ih4 _ _ _ _ _ _)
   | (with_reducible exact reveilleref5_Trim.mono _ _)
   | (with_reducible exact reveilleref5_line.mono _ _ _)
   | (with_reducible exact reveilleref5_raw.mono _ _)
   | (with_reducible exact LeO.refl _)
   | (with_reducible exact LeO.none _)
   | (with_reducible refine LeO.ite ?_ ?_)
   | (with_reducible refine LeO.bind ?_ (fun _ => ?_))
   | exact ih0 _ _ _
   | exact ih1 _ _ _ _
   | exact ih2 _ _ _ _ _
   | exact ih3 _ _ _ _ _
   | exact ih4 _ _ _ _ _ _
   | exact reveilleref5_Trim.mono _ _
   | exact reveilleref5_line.mono _ _ _
   | exact reveilleref5_raw.mono _ _
   | exact LeO.none _
   | refine LeO.ite ?_ ?_
   | refine LeO.bind ?_ (fun _ => ?_)
  ·intro y0 y1 y2 y3 y4 y5
   unfold reveilleref5_Lines.j3
   repeat' first
   | (with_reducible exact ih0 _ _ _)
   | (with_reducible exact ih1 _ _ _ _)
   | (with_reducible exact ih2 _ _ _ _ _)
   | (with_reducible exact ih3 _ _ _ _ _)
   | (with_reducible exact ih4 _ _ _ _ _ _)
   | (with_reducible exact reveilleref5_Trim.mono _ _)
   | (with_reducible exact reveilleref5_line.mono _ _ _)
   | (with_reducible exact reveilleref5_raw.mono _ _)
   | (with_reducible exact LeO.refl _)
   | (with_reducible exact LeO.none _)
   | (with_reducible refine LeO.ite ?_ ?_)
   | (with_reducible refine LeO.bind ?_ (fun _ => ?_))
   | exact ih0 _ _ _
   | exact ih1 _ _ _ _
   | exact ih2 _ _ _ _ _
   | exact ih3 _ _ _ _ _
   | exact ih4 _ _ _ _ _ _
   | exact reveilleref5_Trim.mono _ _
   | exact reveilleref5_line.mono _ _ _
   | exact reveilleref5_raw.mono _ _
   | exact LeO.none _
   | refine LeO.ite ?_ ?_
   | refine LeO.bind ?_ (fun _ => ?_)
theorem reveilleref5_Lines.mono : ∀ a0 k, LeO (reveilleref5_Lines.f k a0) (reveilleref5_Lines.f (k + 1) a0) := by
 intro a0 k
 obtain ⟨ih0, ih1, ih2, ih3, ih4⟩ := reveilleref5_Lines.mono_l k
 unfold reveilleref5_Lines.f
 repeat' first
   | (with_reducible exact ih0 _ _ _)
   | (with_reducible exact ih1 _ _ _ _)
   | (with_reducible exact ih2 _ _ _ _ _)
   | (with_reducible exact ih3 _ _ _ _ _)
   | (with_reducible exact ih4 _ _ _ _ _ _)
   | (with_reducible exact reveilleref5_Trim.mono _ _)
   | (with_reducible exact reveilleref5_line.mono _ _ _)
   | (with_reducible exact reveilleref5_raw.mono _ _)
   | (with_reducible exact LeO.refl _)
   | (with_reducible exact LeO.none _)
   | (with_reducible refine LeO.ite ?_ ?_)
   | (with_reducible refine LeO.bind ?_ (fun _ => ?_))
   | exact ih0 _ _ _
   | exact ih1 _ _ _ _
   | exact ih2 _ _ _ _ _
   | exact ih3 _ _ _ _ _
   | exact ih4 _ _ _ _ _ _
   | exact reveilleref5_Trim.mono _ _
   | exact reveilleref5_line.mono _ _ _
   | exact reveilleref5_raw.mono _ _
   | exact LeO.none _
   | refine LeO.ite ?_ ?_
   | refine LeO.bind ?_ (fun _ => ?_)
set_option maxHeartbeats 8000000 in
set_option maxRecDepth 100000 in
theorem reveilleref5_Lines.calls (k : Nat) (a0 : ByteArray) (r1 : List (S60)) (r2 : Int) (r3 : Int) (w : World) (h : reveilleref5_Lines.f k a0 = some (r1, r2, r3)) :
  Calls Tryd.prog 25 #[.string a0] w fun e w' => ∃ v0_ : Value, e = .returned (.tuple #[v0_, .int .i64 r2, .int .i64 r3]) ∧ Kd.R k60 60 w' w.heap.size (fun _ => True) v0_ r1 ∧ Below w.heap.size w w' := by
 have hu60 := Tryd.underlying60
 have HB := Aside0.mk (Below.refl w.heap.size w)
 have H : (if (a0.size : Int) > 4000 then (some (([] : List (S60)), 0, 51)) else ((reveilleref5_raw.f k a0).bind fun t161 => (reveilleref5_Lines.l0 k t161 ([] : List (S60)) 0))) = some (r1, r2, r3) := h
 clear h
 by_cases c2 : (a0.size : Int) > 4000
 ·rw [if_pos c2] at H
  have c2b0 : decide (4000 < (a0.size : Int)) = true := decide_eq_true c2
  have c2b1 : decide (4000 < a0.size) = true := decide_eq_true (by omega)
  clear c2
  simp only [Option.some.injEq, Prod.mk.injEq] at H
  obtain ⟨rfl, rfl, rfl⟩ := H
  go_enter Tryd.func25, Tryd.ntmps25
  go_wp2
  go_ret3
  exact ⟨_, by first | rfl | (simp [errW_none, errW_some] <;> rfl) | (simp [*, errW_none, errW_some] <;> rfl), by first | exact Kd.R_nil _ _ _ _ _ | exact Kd.N_nil _ _ _ _ _ | exact Kd.V_nil _ _ _ _ _ | exact Kd.Q_nil _ _ _ _ _ | exact Kd.S_nil _ _ _ _ _, by repeat (first | (with_reducible first | exact HB.out | apply below_alloc | apply pw_below_drewN | apply below_drew1) | exact HB.out)⟩
 ·rw [if_neg c2] at H
  have c2b0 : decide (4000 < (a0.size : Int)) = false := decide_eq_false c2
  have c2b1 : decide (4000 < a0.size) = false := decide_eq_false (by omega)
  clear c2
  replace H := Option.bind_eq_some_iff.mp H
  obtain ⟨t161, A30, H⟩ := H
  replace H : (reveilleref5_Lines.l0 k t161 ([] : List (S60)) 0) = some (r1, r2, r3) := H
  have A3 := Aside0.mk A30
  clear A30
  have H' := Aside0.mk H
  clear H
  go_enter Tryd.func25, Tryd.ntmps25
  go_wp2_with (first | ((with_reducible refine gate_callee (f := 35) rfl ?_); refine goesL_ (some 17) rfl rfl Tryd.func35 (by kernel_rfl) rfl #[.string a0] rfl (by (try simp only [List.map_toArray, List.map_cons, List.map_nil]); first | done | rfl | (simp only [List.length_drop, List.length_take]; rfl)) ?_; (with_reducible refine (reveilleref5_raw.calls k a0 t161 _ A3.out).mono ?_); rintro e w4 ⟨v162, rfl, ho0, hb⟩; refine ⟨_, rfl, ?_⟩; have n0_ := Aside0.mk (Kd.R_lower ho0 (below_size (by repeat (first | (with_reducible first | exact HB.out | apply below_alloc | apply pw_below_drewN | apply below_drew1) | exact HB.out)))); have n1_ := Aside0.mk (below_step (by repeat (first | (with_reducible first | exact HB.out | apply below_alloc | apply pw_below_drewN | apply below_drew1) | exact HB.out)) hb); clear HB; have HO163 := n0_; have HB := n1_; clear n0_ n1_; (try clear hb); (try clear hb2); (try clear hk); (try clear hi); (try clear ho0)))
  go_loopg [6, 7] k (fun kq v6 v7 w' => ∃ (x6_1 : List (S60)) (x7_1 : Int), v7 = .int .i64 x7_1 ∧ Aside0 (reveilleref5_Lines.l0 kq t161 x6_1 x7_1 = some (r1, r2, r3)) ∧ Aside0 (kq ≤ k) ∧ Aside0 (Kd.R Kd.string 9 w' w.heap.size (fun _ => True) v162 t161) ∧ Aside0 (Kd.R k60 60 w' w.heap.size (fun _ => True) v6 x6_1) ∧ Aside0 (Below w.heap.size w w'))
  case atStart => exact ⟨(([] : List (S60))), (0), (by first | rfl | (simp; done) | (simp [*]; done)), H', ⟨Nat.le_refl _⟩, ⟨by (with_reducible repeat (first | apply Kd.R_alloc | apply Kd.R_drewN | apply Kd.R_drew)); exact HO163.out⟩, ⟨by first | exact Kd.R_nil _ _ _ _ _ | exact Kd.N_nil _ _ _ _ _ | exact Kd.V_nil _ _ _ _ _ | exact Kd.Q_nil _ _ _ _ _ | exact Kd.S_nil _ _ _ _ _⟩, ⟨by repeat (first | (with_reducible first | exact HB.out | apply below_alloc | apply pw_below_drewN | apply below_drew1) | exact HB.out)⟩⟩
  case round =>
   clear H'
   try clear c2
   try clear c2b0
   try clear c2b1
   try clear p2
   try clear c3
   obtain ⟨x6_1, x7_1, rfl, HA, HK1, HO_5, HO_6, HB⟩ := hrel
   cases gk with
   | zero => exact absurd HA.out (by simp [reveilleref5_Lines.l0])
   | succ k1 =>
    have H := HA.out
    clear HA
    simp only [reveilleref5_Lines.l0] at H
    by_cases c5 : x7_1 < (t161.length : Int)
    ·rw [if_pos c5] at H
     have c5b0 : decide (x7_1 < (t161.length : Int)) = true := decide_eq_true c5
     clear c5
     by_cases c6 : 0 ≤ x7_1
     ·rw [if_pos c6] at H
      have c6b0 : decide (0 ≤ x7_1) = true := decide_eq_true c6
      clear c6
      replace H := Option.bind_eq_some_iff.mp H
      obtain ⟨t165, A70, H⟩ := H
      replace H : (if t165.toList = ([] : List UInt8) then (reveilleref5_Lines.j1 k1 t161 x6_1 x7_1 true) else (if 0 < (t165.size : Int) then (if (bt t165 0) = 35 then (reveilleref5_Lines.j1 k1 t161 x6_1 x7_1 true) else (reveilleref5_Lines.j1 k1 t161 x6_1 x7_1 ((bt t165 0) == 59))) else (none))) = some (r1, r2, r3) := H
      have A7 := Aside0.mk A70
      clear A70
      have HC8 := Aside0.mk H
      clear H
      obtain ⟨Ao9, co9, eo9⟩ := Kd.R_slice HO_5.out
      subst eo9
      have p164 : 0 ≤ (x7_1 : Int) := of_decide_eq_true (by first | (with_reducible assumption) | assumption)
      have q164 : x7_1 < (t161.length : Int) := of_decide_eq_true (by first | (with_reducible assumption) | assumption)
      obtain ⟨ad164, e164, hx164_0⟩ := Kd.at_string (Kd.R_reads' HO_5.out).2.2 x7_1 p164 q164
      cases e164
      replace p164 := eq_true p164
      replace q164 := eq_true q164
      go_upto_region 9 with (first | ((with_reducible refine gate_callee (f := 36) rfl ?_); refine goesL_ (some 28) rfl rfl Tryd.func36 (by kernel_rfl) rfl #[.string (rdOf ByteArray.empty t161 x7_1)] rfl (by (try simp only [List.map_toArray, List.map_cons, List.map_nil]); first | done | rfl | (simp only [List.length_drop, List.length_take]; rfl)) ?_; (with_reducible refine (reveilleref5_Trim.calls k1 (rdOf ByteArray.empty t161 x7_1) t165 _ A7.out).mono ?_); rintro e w' ⟨rfl, ⟨nd, rfl⟩⟩; refine ⟨_, rfl, ?_⟩))
      (try simp only [Act.put, List.setIfInBounds_toArray, List.set_cons_zero, List.set_cons_succ])
      go_cut [40] (fun v40 wc => ∃ (kq : Nat) (x40_7 : Bool), v40 = .bool x40_7 ∧ Aside0 (reveilleref5_Lines.j1 kq t161 x6_1 x7_1 x40_7 = some (r1, r2, r3)) ∧ Aside0 (kq ≤ k1) ∧ Aside0 (Kd.R Kd.string 9 wc w.heap.size (fun _ => True) (.slice (some ad164) t161.length co9) t161) ∧ Aside0 (Kd.R k60 60 wc w.heap.size (fun _ => True) u6 x6_1) ∧ Aside0 (Below w.heap.size w wc))
      case first =>
       have H := HC8.out
       clear HC8
       by_cases c10 : t165.toList = ([] : List UInt8)
       ·rw [if_pos c10] at H
        have c10b0 : (t165.toList == ([] : List UInt8)) = true := beq_iff_eq.mpr c10
        have c10b1 : (t165.toList != ([] : List UInt8)) = false := bne_eq_false_iff_eq.mpr c10
        clear c10
        (first | rw [c10b0] | (simp only [i64_w, i32_w]; rw [c10b0]) | skip)
        have H' := Aside0.mk H
        clear H
        go_wp2
        go_meet
        case rel => exact ⟨_, (true), (by first | rfl | (simp; done) | (simp [*]; done)), H', ⟨by have := HK1.out; first | omega | exact Nat.le_refl _⟩, ⟨by (with_reducible repeat (first | apply Kd.R_alloc | apply Kd.R_drewN | apply Kd.R_drew)); exact HO_5.out⟩, ⟨by (with_reducible repeat (first | apply Kd.R_alloc | apply Kd.R_drewN | apply Kd.R_drew)); exact HO_6.out⟩, ⟨by repeat (first | (with_reducible first | exact HB.out | apply below_alloc | apply pw_below_drewN | apply below_drew1) | exact HB.out)⟩⟩
       ·rw [if_neg c10] at H
        have c10b0 : (t165.toList == ([] : List UInt8)) = false := beq_eq_false_iff_ne.mpr c10
        have c10b1 : (t165.toList != ([] : List UInt8)) = true := bne_iff_ne.mpr c10
        (first | rw [c10b0] | (simp only [i64_w, i32_w]; rw [c10b0]) | skip)
        by_cases c11 : 0 < (t165.size : Int)
        ·rw [if_pos c11] at H
         have c11b0 : decide (0 < (t165.size : Int)) = true := decide_eq_true c11
         have c11b1 : decide (0 < t165.size) = true := decide_eq_true (by omega)
         clear c11
         by_cases c13 : (bt t165 0) = 35
         ·rw [if_pos c13] at H
          have c13b0 : ((bt t165 0) == 35) = true := beq_iff_eq.mpr c13
          have c13b1 : ((bt t165 0) != 35) = false := bne_eq_false_iff_eq.mpr c13
          clear c13
          have H' := Aside0.mk H
          clear H
          have p12 : 0 ≤ (0 : Int) := (by omega)
          have q12 : 0 < t165.size := (by have : (0 : Int) < (t165.size : Int) := of_decide_eq_true (by first | (with_reducible assumption) | assumption); omega)
          have hx12 : ∀ h : 0 < t165.size, ((t165[0]'h).toNat : Int) = bt t165 0 := bt_at t165 0
          clear p12
          have qi12 : (0 < (t165.size : Int)) = True := eq_true (of_decide_eq_true (by first | (with_reducible assumption) | assumption))
          replace q12 := eq_true q12
          go_wp2
          go_meet
          case rel => exact ⟨_, (true), (by first | rfl | (simp; done) | (simp [*]; done)), H', ⟨by have := HK1.out; first | omega | exact Nat.le_refl _⟩, ⟨by (with_reducible repeat (first | apply Kd.R_alloc | apply Kd.R_drewN | apply Kd.R_drew)); exact HO_5.out⟩, ⟨by (with_reducible repeat (first | apply Kd.R_alloc | apply Kd.R_drewN | apply Kd.R_drew)); exact HO_6.out⟩, ⟨by repeat (first | (with_reducible first | exact HB.out | apply below_alloc | apply pw_below_drewN | apply below_drew1) | exact HB.out)⟩⟩
         ·rw [if_neg c13] at H
          have c13b0 : ((bt t165 0) == 35) = false := beq_eq_false_iff_ne.mpr c13
          have c13b1 : ((bt t165 0) != 35) = true := bne_iff_ne.mpr c13
          have H' := Aside0.mk H
          clear H
          have p12 : 0 ≤ (0 : Int) := (by omega)
          have q12 : 0 < t165.size := (by have : (0 : Int) < (t165.size : Int) := of_decide_eq_true (by first | (with_reducible assumption) | assumption); omega)
          have hx12 : ∀ h : 0 < t165.size, ((t165[0]'h).toNat : Int) = bt t165 0 := bt_at t165 0
          clear p12
          have qi12 : (0 < (t165.size : Int)) = True := eq_true (of_decide_eq_true (by first | (with_reducible assumption) | assumption))
          replace q12 := eq_true q12
          have p14 : 0 ≤ (0 : Int) := (by omega)
          have q14 : 0 < t165.size := (by have : (0 : Int) < (t165.size : Int) := of_decide_eq_true (by first | (with_reducible assumption) | assumption); omega)
          have hx14 : ∀ h : 0 < t165.size, ((t165[0]'h).toNat : Int) = bt t165 0 := bt_at t165 0
          clear p14
          have qi14 : (0 < (t165.size : Int)) = True := eq_true (of_decide_eq_true (by first | (with_reducible assumption) | assumption))
          replace q14 := eq_true q14
          go_wp2
          go_meet
          case rel => exact ⟨_, (((bt t165 0) == 59)), (by first | rfl | (simp; done) | (simp [*]; done)), H', ⟨by have := HK1.out; first | omega | exact Nat.le_refl _⟩, ⟨by (with_reducible repeat (first | apply Kd.R_alloc | apply Kd.R_drewN | apply Kd.R_drew)); exact HO_5.out⟩, ⟨by (with_reducible repeat (first | apply Kd.R_alloc | apply Kd.R_drewN | apply Kd.R_drew)); exact HO_6.out⟩, ⟨by repeat (first | (with_reducible first | exact HB.out | apply below_alloc | apply pw_below_drewN | apply below_drew1) | exact HB.out)⟩⟩
        ·rw [if_neg c11] at H
         exact absurd H (by simp)
      case rest =>
       clear HC8
       try clear c1
       try clear p1
       try clear q1
       try clear hx1
       try clear qi1
       try clear c2
       try clear c2b0
       try clear c2b1
       try clear p2
       try clear c3
       try clear c5
       try clear c5b0
       try clear c6
       try clear c6b0
       try clear c10
       try clear c10b0
       try clear c10b1
       try clear c11
       try clear c11b0
       try clear c11b1
       try clear p12
       try clear q12
       try clear hx12
       try clear qi12
       try clear c13
       try clear c13b0
       try clear c13b1
       try clear p14
       try clear q14
       try clear hx14
       try clear qi14
       try clear hx164_0
       try clear p12
       try clear p14
       try clear p164
       try clear p2
       try clear q12
       try clear q14
       try clear q164
       obtain ⟨kq, x40_7, rfl, HA, HJ7, HO_5, HO_6, HB⟩ := hcut
       cases kq with
       | zero => exact absurd HA.out (by simp [reveilleref5_Lines.j1])
       | succ kj7 =>
        have H := HA.out
        clear HA
        simp only [reveilleref5_Lines.j1] at H
        by_cases c15 : x40_7 = true
        ·subst c15
         have H1 : (reveilleref5_Lines.l0 kj7 t161 x6_1 (wrap64 (x7_1 + 1))) = some (r1, r2, r3) := by rw [if_pos rfl] at H; exact H
         clear H
         have H := H1
         clear H1
         have H' := Aside0.mk H
         clear H
         go_wp2
         go_roundg kj7
         case measure => have := HK1.out; have := HJ7.out; omega
         case rel => exact ⟨(x6_1), (wrap64 (x7_1 + 1)), (by first | rfl | (simp; done) | (simp [*]; done)), H', ⟨by have := HK1.out; have := HJ7.out; omega⟩, ⟨by (with_reducible repeat (first | apply Kd.R_alloc | apply Kd.R_drewN | apply Kd.R_drew)); exact HO_5.out⟩, ⟨by (with_reducible repeat (first | apply Kd.R_alloc | apply Kd.R_drewN | apply Kd.R_drew)); exact HO_6.out⟩, ⟨by repeat (first | (with_reducible first | exact HB.out | apply below_alloc | apply pw_below_drewN | apply below_drew1) | exact HB.out)⟩⟩
        ·replace c15 := Bool.eq_false_iff.mpr c15
         subst c15
         have H1 : (if 0 ≤ x7_1 then (if x7_1 < (t161.length : Int) then (reveilleref5_Lines.l1 kj7 t161 x6_1 x7_1 (wrap64 (x7_1 + 1)) (rdOf ByteArray.empty t161 x7_1)) else (none)) else (none)) = some (r1, r2, r3) := by rw [if_neg (show ¬ (false = true) by decide)] at H; exact H
         clear H
         have H := H1
         clear H1
         by_cases c16 : 0 ≤ x7_1
         ·rw [if_pos c16] at H
          have c16b0 : decide (0 ≤ x7_1) = true := decide_eq_true c16
          clear c16
          by_cases c17 : x7_1 < (t161.length : Int)
          ·rw [if_pos c17] at H
           have c17b0 : decide (x7_1 < (t161.length : Int)) = true := decide_eq_true c17
           clear c17
           have HC18 := Aside0.mk H
           clear H
           have p166 : 0 ≤ (x7_1 : Int) := of_decide_eq_true (by first | (with_reducible assumption) | assumption)
           have q166 : x7_1 < (t161.length : Int) := of_decide_eq_true (by first | (with_reducible assumption) | assumption)
           obtain ⟨ad166, e166, hx166_0⟩ := Kd.at_string (Kd.R_reads' HO_5.out).2.2 x7_1 p166 q166
           obtain rfl : ad164 = ad166 := (by injection e166)
           replace p166 := eq_true p166
           replace q166 := eq_true q166
           go_upto_block 2 with (fail)
           go_cut [7, 10] (fun v7 v10 wc => ∃ (kq : Nat) (x7_17 : Int) (x10_17 : ByteArray), v7 = .int .i64 x7_17 ∧ v10 = .string x10_17 ∧ Aside0 (reveilleref5_Lines.j4 kq t161 x6_1 x7_17 (wrap64 (x7_1 + 1)) x10_17 = some (r1, r2, r3)) ∧ Aside0 (kq ≤ kj7) ∧ Aside0 (Kd.R Kd.string 9 wc w.heap.size (fun _ => True) (.slice (some ad164) t161.length co9) t161) ∧ Aside0 (Kd.R k60 60 wc w.heap.size (fun _ => True) u6 x6_1) ∧ Aside0 (Below w.heap.size w wc))
           case first =>
            have H := HC18.out
            clear HC18
            have H' := Aside0.mk H
            clear H
            go_wp2
            go_loopg [7, 10] kj7 (fun kq v7 v10 w' => ∃ (x7_3 : Int) (x10_3 : ByteArray), v7 = .int .i64 x7_3 ∧ v10 = .string x10_3 ∧ Aside0 (reveilleref5_Lines.l1 kq t161 x6_1 x7_3 (wrap64 (x7_1 + 1)) x10_3 = some (r1, r2, r3)) ∧ Aside0 (kq ≤ kj7) ∧ Aside0 (Kd.R Kd.string 9 w' w.heap.size (fun _ => True) (.slice (some ad164) t161.length co9) t161) ∧ Aside0 (Kd.R k60 60 w' w.heap.size (fun _ => True) u6 x6_1) ∧ Aside0 (Below w.heap.size w w'))
            case atStart => exact ⟨(x7_1), (rdOf ByteArray.empty t161 x7_1), (by first | rfl | (simp; done) | (simp [*]; done)), (by first | rfl | (simp; done) | (simp [*]; done)), H', ⟨Nat.le_refl _⟩, ⟨by (with_reducible repeat (first | apply Kd.R_alloc | apply Kd.R_drewN | apply Kd.R_drew)); exact HO_5.out⟩, ⟨by (with_reducible repeat (first | apply Kd.R_alloc | apply Kd.R_drewN | apply Kd.R_drew)); exact HO_6.out⟩, ⟨by repeat (first | (with_reducible first | exact HB.out | apply below_alloc | apply pw_below_drewN | apply below_drew1) | exact HB.out)⟩⟩
            case round =>
             clear H'
             try clear c1
             try clear p1
             try clear q1
             try clear hx1
             try clear qi1
             try clear c2
             try clear c2b0
             try clear c2b1
             try clear p2
             try clear c3
             try clear c5
             try clear c5b0
             try clear c6
             try clear c6b0
             try clear p6
             try clear c10
             try clear c10b0
             try clear c10b1
             try clear c11
             try clear c11b0
             try clear c11b1
             try clear p12
             try clear q12
             try clear hx12
             try clear qi12
             try clear c13
             try clear c13b0
             try clear c13b1
             try clear p14
             try clear q14
             try clear hx14
             try clear qi14
             try clear c15
             try clear c16
             try clear c16b0
             try clear p16
             try clear q16
             try clear hx16
             try clear c17
             try clear c17b0
             try clear hx164_0
             try clear hx166_0
             try clear p1
             try clear p12
             try clear p14
             try clear p164
             try clear p166
             try clear p2
             try clear q1
             try clear q12
             try clear q14
             try clear q164
             try clear q166
             obtain ⟨x7_3, x10_3, rfl, rfl, HA, HK3, HO_5, HO_6, HB⟩ := hrel
             cases gk with
             | zero => exact absurd HA.out (by simp [reveilleref5_Lines.l1])
             | succ k3 =>
              have H := HA.out
              clear HA
              simp only [reveilleref5_Lines.l1] at H
              have HC19 := Aside0.mk H
              clear H
              go_upto_region 12 with (fail)
              go_cut [57] (fun v57 wc => ∃ (kq : Nat) (x57_18 : Bool), v57 = .bool x57_18 ∧ Aside0 (reveilleref5_Lines.j3 kq t161 x6_1 x7_3 (wrap64 (x7_1 + 1)) x10_3 x57_18 = some (r1, r2, r3)) ∧ Aside0 (kq ≤ k3) ∧ Aside0 (Kd.R Kd.string 9 wc w.heap.size (fun _ => True) (.slice (some ad164) t161.length co9) t161) ∧ Aside0 (Kd.R k60 60 wc w.heap.size (fun _ => True) u6 x6_1) ∧ Aside0 (Below w.heap.size w wc))
              case first =>
               have H := HC19.out
               clear HC19
               by_cases c20 : (x10_3.size : Int) > 0
               ·rw [if_pos c20] at H
                have c20b0 : decide (0 < (x10_3.size : Int)) = true := decide_eq_true c20
                have c20b1 : decide (0 < x10_3.size) = true := decide_eq_true (by omega)
                clear c20
                (first | rw [c20b0] | (simp only [i64_w, i32_w]; rw [c20b0]) | skip)
                obtain ⟨ji21, hji21⟩ : ∃ j_ : Int, (wrap64 ((x10_3.size : Int) - 1)) = j_ := ⟨_, rfl⟩
                replace H : (if 0 ≤ (ji21) then (if (ji21) < (x10_3.size : Int) then (reveilleref5_Lines.j3 k3 t161 x6_1 x7_3 (wrap64 (x7_1 + 1)) x10_3 ((bt x10_3 (ji21)) == 92)) else (none)) else (none)) = some (r1, r2, r3) := by first | (rw [hji21] at H; exact H) | (simp only [hji21] at H ⊢; exact H)
                have hji21w : (IntKind.i64.wrap ((x10_3.size : Int) - 1)) = ji21 := (i64_w _).trans hji21
                by_cases c22 : 0 ≤ (ji21)
                ·rw [if_pos c22] at H
                 have c22b0 : decide (0 ≤ (ji21)) = true := decide_eq_true c22
                 clear c22
                 by_cases c23 : (ji21) < (x10_3.size : Int)
                 ·rw [if_pos c23] at H
                  have c23b0 : decide ((ji21) < (x10_3.size : Int)) = true := decide_eq_true c23
                  clear c23
                  have H' := Aside0.mk H
                  clear H
                  have p24 : 0 ≤ ((ji21) : Int) := of_decide_eq_true (by first | (with_reducible assumption) | assumption)
                  have q24 : (ji21) < (x10_3.size : Int) := of_decide_eq_true (by first | (with_reducible assumption) | assumption)
                  have hx24 := bt_at x10_3 (ji21)
                  replace p24 := eq_true p24
                  replace q24 := eq_true q24
                  go_wp2
                  go_meet
                  case rel => exact ⟨_, (((bt x10_3 (ji21)) == 92)), (by first | rfl | (simp; done) | (simp only [← hji21] <;> (first | rfl | simp)) | (simp [*]; done)), H', ⟨by have := HK1.out; have := HJ7.out; have := HK3.out; first | omega | exact Nat.le_refl _⟩, ⟨by (with_reducible repeat (first | apply Kd.R_alloc | apply Kd.R_drewN | apply Kd.R_drew)); exact HO_5.out⟩, ⟨by (with_reducible repeat (first | apply Kd.R_alloc | apply Kd.R_drewN | apply Kd.R_drew)); exact HO_6.out⟩, ⟨by repeat (first | (with_reducible first | exact HB.out | apply below_alloc | apply pw_below_drewN | apply below_drew1) | exact HB.out)⟩⟩
                 ·rw [if_neg c23] at H
                  exact absurd H (by simp)
                ·rw [if_neg c22] at H
                 exact absurd H (by simp)
               ·rw [if_neg c20] at H
                have c20b0 : decide (0 < (x10_3.size : Int)) = false := decide_eq_false c20
                have c20b1 : decide (0 < x10_3.size) = false := decide_eq_false (by omega)
                clear c20
                (first | rw [c20b0] | (simp only [i64_w, i32_w]; rw [c20b0]) | skip)
                have H' := Aside0.mk H
                clear H
                go_wp2
                go_meet
                case rel => exact ⟨_, (false), (by first | rfl | (simp; done) | (simp [*]; done)), H', ⟨by have := HK1.out; have := HJ7.out; have := HK3.out; first | omega | exact Nat.le_refl _⟩, ⟨by (with_reducible repeat (first | apply Kd.R_alloc | apply Kd.R_drewN | apply Kd.R_drew)); exact HO_5.out⟩, ⟨by (with_reducible repeat (first | apply Kd.R_alloc | apply Kd.R_drewN | apply Kd.R_drew)); exact HO_6.out⟩, ⟨by repeat (first | (with_reducible first | exact HB.out | apply below_alloc | apply pw_below_drewN | apply below_drew1) | exact HB.out)⟩⟩
              case rest =>
               clear HC19
               try clear c1
               try clear p1
               try clear q1
               try clear hx1
               try clear qi1
               try clear c2
               try clear c2b0
               try clear c2b1
               try clear p2
               try clear q2
               try clear hx2
               try clear c3
               try clear c5
               try clear c5b0
               try clear c6
               try clear c6b0
               try clear p6
               try clear c10
               try clear c10b0
               try clear c10b1
               try clear c11
               try clear c11b0
               try clear c11b1
               try clear p12
               try clear q12
               try clear hx12
               try clear qi12
               try clear c13
               try clear c13b0
               try clear c13b1
               try clear p14
               try clear q14
               try clear hx14
               try clear qi14
               try clear c15
               try clear c16
               try clear c16b0
               try clear p16
               try clear q16
               try clear hx16
               try clear c17
               try clear c17b0
               try clear c20
               try clear c20b0
               try clear c20b1
               try clear c22
               try clear c22b0
               try clear c23
               try clear c23b0
               try clear p24
               try clear q24
               try clear hx24
               try clear hx164_0
               try clear hx166_0
               try clear p1
               try clear p12
               try clear p14
               try clear p16
               try clear p164
               try clear p166
               try clear p2
               try clear p24
               try clear p6
               try clear q1
               try clear q12
               try clear q14
               try clear q16
               try clear q164
               try clear q166
               try clear q24
               obtain ⟨kq, x57_18, rfl, HA, HJ18, HO_5, HO_6, HB⟩ := hcut
               cases kq with
               | zero => exact absurd HA.out (by simp [reveilleref5_Lines.j3])
               | succ kj18 =>
                have H := HA.out
                clear HA
                simp only [reveilleref5_Lines.j3] at H
                by_cases c25 : x57_18 = true
                ·subst c25
                 have H1 : (if 0 ≤ (wrap64 ((x10_3.size : Int) - 1)) then (if (wrap64 ((x10_3.size : Int) - 1)) ≤ (x10_3.size : Int) then (if (x10_3.extract 0 ((wrap64 ((x10_3.size : Int) - 1)) : Int).toNat).size + 1 ≤ 9223372036854775807 then (if (wrap64 (x7_3 + 1)) = (t161.length : Int) then (reveilleref5_Lines.j4 kj18 t161 x6_1 x7_3 (wrap64 (x7_1 + 1)) ((x10_3.extract 0 ((wrap64 ((x10_3.size : Int) - 1)) : Int).toNat) ++ (⟨#[32]⟩ : ByteArray))) else (if 0 ≤ (wrap64 (x7_3 + 1)) then (if (wrap64 (x7_3 + 1)) < (t161.length : Int) then (if ((x10_3.extract 0 ((wrap64 ((x10_3.size : Int) - 1)) : Int).toNat) ++ (⟨#[32]⟩ : ByteArray)).size + (rdOf ByteArray.empty t161 (wrap64 (x7_3 + 1))).size ≤ 9223372036854775807 then (reveilleref5_Lines.l1 kj18 t161 x6_1 (wrap64 (x7_3 + 1)) (wrap64 (x7_1 + 1)) (((x10_3.extract 0 ((wrap64 ((x10_3.size : Int) - 1)) : Int).toNat) ++ (⟨#[32]⟩ : ByteArray)) ++ (rdOf ByteArray.empty t161 (wrap64 (x7_3 + 1))))) else (none)) else (none)) else (none))) else (none)) else (none)) else (none)) = some (r1, r2, r3) := by rw [if_pos rfl] at H; exact H
                 clear H
                 have H := H1
                 clear H1
                 obtain ⟨ji26, hji26⟩ : ∃ j_ : Int, (wrap64 ((x10_3.size : Int) - 1)) = j_ := ⟨_, rfl⟩
                 replace H : (if 0 ≤ (ji26) then (if (ji26) ≤ (x10_3.size : Int) then (if (x10_3.extract 0 ((ji26) : Int).toNat).size + 1 ≤ 9223372036854775807 then (if (wrap64 (x7_3 + 1)) = (t161.length : Int) then (reveilleref5_Lines.j4 kj18 t161 x6_1 x7_3 (wrap64 (x7_1 + 1)) ((x10_3.extract 0 ((ji26) : Int).toNat) ++ (⟨#[32]⟩ : ByteArray))) else (if 0 ≤ (wrap64 (x7_3 + 1)) then (if (wrap64 (x7_3 + 1)) < (t161.length : Int) then (if ((x10_3.extract 0 ((ji26) : Int).toNat) ++ (⟨#[32]⟩ : ByteArray)).size + (rdOf ByteArray.empty t161 (wrap64 (x7_3 + 1))).size ≤ 9223372036854775807 then (reveilleref5_Lines.l1 kj18 t161 x6_1 (wrap64 (x7_3 + 1)) (wrap64 (x7_1 + 1)) (((x10_3.extract 0 ((ji26) : Int).toNat) ++ (⟨#[32]⟩ : ByteArray)) ++ (rdOf ByteArray.empty t161 (wrap64 (x7_3 + 1))))) else (none)) else (none)) else (none))) else (none)) else (none)) else (none)) = some (r1, r2, r3) := by first | (rw [hji26] at H; exact H) | (simp only [hji26] at H ⊢; exact H)
                 have hji26w : (IntKind.i64.wrap ((x10_3.size : Int) - 1)) = ji26 := (i64_w _).trans hji26
                 by_cases c27 : 0 ≤ (ji26)
                 ·rw [if_pos c27] at H
                  have c27b0 := eq_true c27
                  have c27b1 : decide (0 ≤ (ji26)) = true := decide_eq_true c27
                  clear c27
                  by_cases c28 : (ji26) ≤ (x10_3.size : Int)
                  ·rw [if_pos c28] at H
                   have c28b0 := eq_true c28
                   have c28b1 : decide ((ji26) ≤ (x10_3.size : Int)) = true := decide_eq_true c28
                   clear c28
                   by_cases c29 : (x10_3.extract 0 ((ji26) : Int).toNat).size + 1 ≤ 9223372036854775807
                   ·rw [if_pos c29] at H
                    have c29b0 := eq_true c29
                    have c29b1 : decide ((x10_3.extract 0 ((ji26) : Int).toNat).size + 1 ≤ 9223372036854775807) = true := decide_eq_true c29
                    try have c29b2 : (9223372036854775807 < (x10_3.extract 0 ((ji26) : Int).toNat).size + 1) = False := eq_false (Nat.not_lt.2 c29)
                    have c29k := of_eq_true c28b0
                    have c29x : (9223372036854775807 < (ji26).toNat + 1) = False := eq_false (by rw [ByteArray.size_extract] at c29; omega)
                    by_cases c30 : (wrap64 (x7_3 + 1)) = (t161.length : Int)
                    ·rw [if_pos c30] at H
                     have c30b0 : ((wrap64 (x7_3 + 1)) == (t161.length : Int)) = true := beq_iff_eq.mpr c30
                     have c30b1 : ((wrap64 (x7_3 + 1)) != (t161.length : Int)) = false := bne_eq_false_iff_eq.mpr c30
                     clear c30
                     have H' := Aside0.mk H
                     clear H
                     go_wp2
                     go_meet
                     case rel => exact ⟨_, (x7_3), ((x10_3.extract 0 ((ji26) : Int).toNat) ++ (⟨#[32]⟩ : ByteArray)), (by first | rfl | (simp; done) | (simp [*]; done)), (by first | rfl | (simp; done) | (simp only [← hji26] <;> (first | rfl | simp)) | (simp [*]; done)), H', ⟨by have := HK1.out; have := HJ7.out; have := HK3.out; have := HJ18.out; first | omega | exact Nat.le_refl _⟩, ⟨by (with_reducible repeat (first | apply Kd.R_alloc | apply Kd.R_drewN | apply Kd.R_drew)); exact HO_5.out⟩, ⟨by (with_reducible repeat (first | apply Kd.R_alloc | apply Kd.R_drewN | apply Kd.R_drew)); exact HO_6.out⟩, ⟨by repeat (first | (with_reducible first | exact HB.out | apply below_alloc | apply pw_below_drewN | apply below_drew1) | exact HB.out)⟩⟩
                    ·rw [if_neg c30] at H
                     have c30b0 : ((wrap64 (x7_3 + 1)) == (t161.length : Int)) = false := beq_eq_false_iff_ne.mpr c30
                     have c30b1 : ((wrap64 (x7_3 + 1)) != (t161.length : Int)) = true := bne_iff_ne.mpr c30
                     obtain ⟨ji31, hji31⟩ : ∃ j_ : Int, (wrap64 (x7_3 + 1)) = j_ := ⟨_, rfl⟩
                     replace H : (if 0 ≤ (ji31) then (if (ji31) < (t161.length : Int) then (if ((x10_3.extract 0 ((ji26) : Int).toNat) ++ (⟨#[32]⟩ : ByteArray)).size + (rdOf ByteArray.empty t161 (ji31)).size ≤ 9223372036854775807 then (reveilleref5_Lines.l1 kj18 t161 x6_1 ji31 (wrap64 (x7_1 + 1)) (((x10_3.extract 0 ((ji26) : Int).toNat) ++ (⟨#[32]⟩ : ByteArray)) ++ (rdOf ByteArray.empty t161 (ji31)))) else (none)) else (none)) else (none)) = some (r1, r2, r3) := by first | (rw [hji31] at H; exact H) | (simp only [hji31] at H ⊢; exact H)
                     (try rw [hji31] at c30b0)
                     (try rw [hji31] at c30b1)
                     have hji31w : (IntKind.i64.wrap (x7_3 + 1)) = ji31 := (i64_w _).trans hji31
                     by_cases c32 : 0 ≤ (ji31)
                     ·rw [if_pos c32] at H
                      have c32b0 : decide (0 ≤ (ji31)) = true := decide_eq_true c32
                      clear c32
                      by_cases c33 : (ji31) < (t161.length : Int)
                      ·rw [if_pos c33] at H
                       have c33b0 : decide ((ji31) < (t161.length : Int)) = true := decide_eq_true c33
                       clear c33
                       by_cases c34 : ((x10_3.extract 0 ((ji26) : Int).toNat) ++ (⟨#[32]⟩ : ByteArray)).size + (rdOf ByteArray.empty t161 (ji31)).size ≤ 9223372036854775807
                       ·rw [if_pos c34] at H
                        have c34b0 := eq_true c34
                        have c34b1 : decide (((x10_3.extract 0 ((ji26) : Int).toNat) ++ (⟨#[32]⟩ : ByteArray)).size + (rdOf ByteArray.empty t161 (ji31)).size ≤ 9223372036854775807) = true := decide_eq_true c34
                        try have c34b2 : (9223372036854775807 < ((x10_3.extract 0 ((ji26) : Int).toNat) ++ (⟨#[32]⟩ : ByteArray)).size + (rdOf ByteArray.empty t161 (ji31)).size) = False := eq_false (Nat.not_lt.2 c34)
                        have H' := Aside0.mk H
                        clear H
                        have p167 : 0 ≤ ((ji31) : Int) := of_decide_eq_true (by first | (with_reducible assumption) | assumption)
                        have q167 : (ji31) < (t161.length : Int) := of_decide_eq_true (by first | (with_reducible assumption) | assumption)
                        obtain ⟨ad167, e167, hx167_0⟩ := Kd.at_string (Kd.R_reads' HO_5.out).2.2 (ji31) p167 q167
                        obtain rfl : ad164 = ad167 := (by injection e167)
                        replace p167 := eq_true p167
                        replace q167 := eq_true q167
                        go_wp2
                        go_roundg kj18
                        case measure => have := HK1.out; have := HJ7.out; have := HK3.out; have := HJ18.out; omega
                        case rel => exact ⟨(ji31), (((x10_3.extract 0 ((ji26) : Int).toNat) ++ (⟨#[32]⟩ : ByteArray)) ++ (rdOf ByteArray.empty t161 (ji31))), (by first | rfl | (simp; done) | (simp only [← hji31] <;> (first | rfl | simp)) | (simp [*]; done)), (by first | rfl | (simp; done) | (simp only [← hji26, ← hji31] <;> (first | rfl | simp)) | (simp [*]; done)), H', ⟨by have := HK1.out; have := HJ7.out; have := HK3.out; have := HJ18.out; omega⟩, ⟨by (with_reducible repeat (first | apply Kd.R_alloc | apply Kd.R_drewN | apply Kd.R_drew)); exact HO_5.out⟩, ⟨by (with_reducible repeat (first | apply Kd.R_alloc | apply Kd.R_drewN | apply Kd.R_drew)); exact HO_6.out⟩, ⟨by repeat (first | (with_reducible first | exact HB.out | apply below_alloc | apply pw_below_drewN | apply below_drew1) | exact HB.out)⟩⟩
                       ·rw [if_neg c34] at H
                        exact absurd H (by simp)
                      ·rw [if_neg c33] at H
                       exact absurd H (by simp)
                     ·rw [if_neg c32] at H
                      exact absurd H (by simp)
                   ·rw [if_neg c29] at H
                    exact absurd H (by simp)
                  ·rw [if_neg c28] at H
                   exact absurd H (by simp)
                 ·rw [if_neg c27] at H
                  exact absurd H (by simp)
                ·replace c25 := Bool.eq_false_iff.mpr c25
                 subst c25
                 have H1 : (reveilleref5_Lines.j4 kj18 t161 x6_1 x7_3 (wrap64 (x7_1 + 1)) x10_3) = some (r1, r2, r3) := by rw [if_neg (show ¬ (false = true) by decide)] at H; exact H
                 clear H
                 have H := H1
                 clear H1
                 have H' := Aside0.mk H
                 clear H
                 go_wp2
                 go_meet
                 case rel => exact ⟨_, (x7_3), (x10_3), (by first | rfl | (simp; done) | (simp [*]; done)), (by first | rfl | (simp; done) | (simp [*]; done)), H', ⟨by have := HK1.out; have := HJ7.out; have := HK3.out; have := HJ18.out; first | omega | exact Nat.le_refl _⟩, ⟨by (with_reducible repeat (first | apply Kd.R_alloc | apply Kd.R_drewN | apply Kd.R_drew)); exact HO_5.out⟩, ⟨by (with_reducible repeat (first | apply Kd.R_alloc | apply Kd.R_drewN | apply Kd.R_drew)); exact HO_6.out⟩, ⟨by repeat (first | (with_reducible first | exact HB.out | apply below_alloc | apply pw_below_drewN | apply below_drew1) | exact HB.out)⟩⟩
           case rest =>
            clear HC18
            try clear c1
            try clear p1
            try clear q1
            try clear hx1
            try clear qi1
            try clear c2
            try clear c2b0
            try clear c2b1
            try clear p2
            try clear q2
            try clear hx2
            try clear c3
            try clear c5
            try clear c5b0
            try clear c6
            try clear c6b0
            try clear p6
            try clear c10
            try clear c10b0
            try clear c10b1
            try clear c11
            try clear c11b0
            try clear c11b1
            try clear p12
            try clear q12
            try clear hx12
            try clear qi12
            try clear c13
            try clear c13b0
            try clear c13b1
            try clear p14
            try clear q14
            try clear hx14
            try clear qi14
            try clear c15
            try clear c16
            try clear c16b0
            try clear p16
            try clear q16
            try clear hx16
            try clear c17
            try clear c17b0
            try clear c20
            try clear c20b0
            try clear c20b1
            try clear c22
            try clear c22b0
            try clear c23
            try clear c23b0
            try clear p24
            try clear q24
            try clear hx24
            try clear c25
            try clear c27
            try clear c27b0
            try clear c27b1
            try clear c28
            try clear c28b0
            try clear c28b1
            try clear c29
            try clear c29b0
            try clear c29b1
            try clear c29b2
            try clear c30
            try clear c30b0
            try clear c30b1
            try clear c32
            try clear c32b0
            try clear c33
            try clear c33b0
            try clear c34
            try clear c34b0
            try clear c34b1
            try clear c34b2
            try clear hx164_0
            try clear hx166_0
            try clear hx167_0
            try clear p1
            try clear p12
            try clear p14
            try clear p16
            try clear p164
            try clear p166
            try clear p167
            try clear p2
            try clear p24
            try clear p6
            try clear q1
            try clear q12
            try clear q14
            try clear q16
            try clear q164
            try clear q166
            try clear q167
            try clear q2
            try clear q24
            obtain ⟨kq, x7_17, x10_17, rfl, rfl, HA, HJ17, HO_5, HO_6, HB⟩ := hcut
            cases kq with
            | zero => exact absurd HA.out (by simp [reveilleref5_Lines.j4])
            | succ kj17 =>
             have H := HA.out
             clear HA
             simp only [reveilleref5_Lines.j4] at H
             by_cases c35 : (x10_17.size : Int) > 400
             ·rw [if_pos c35] at H
              have c35b0 : decide (400 < (x10_17.size : Int)) = true := decide_eq_true c35
              have c35b1 : decide (400 < x10_17.size) = true := decide_eq_true (by omega)
              clear c35
              simp only [Option.some.injEq, Prod.mk.injEq] at H
              obtain ⟨rfl, rfl, rfl⟩ := H
              go_wp2
              go_ret3
              exact ⟨_, by first | rfl | (simp [errW_none, errW_some] <;> rfl) | (simp [*, errW_none, errW_some] <;> rfl), by first | exact Kd.R_nil _ _ _ _ _ | exact Kd.N_nil _ _ _ _ _ | exact Kd.V_nil _ _ _ _ _ | exact Kd.Q_nil _ _ _ _ _ | exact Kd.S_nil _ _ _ _ _, by repeat (first | (with_reducible first | exact HB.out | apply below_alloc | apply pw_below_drewN | apply below_drew1) | exact HB.out)⟩
             ·rw [if_neg c35] at H
              have c35b0 : decide (400 < (x10_17.size : Int)) = false := decide_eq_false c35
              have c35b1 : decide (400 < x10_17.size) = false := decide_eq_false (by omega)
              clear c35
              replace H := Option.bind_eq_some_iff.mp H
              obtain ⟨⟨t168, t169, t170, t171, t172⟩, A360, H⟩ := H
              replace H : (if t172 = true then (if x6_1.length < 2932031007402 then (reveilleref5_Lines.l0 kj17 t161 (x6_1 ++ [(⟨t168, t169, t170, t171⟩ : S60)]) (wrap64 (x7_17 + 1))) else (none)) else (some (([] : List (S60)), (wrap64 (x7_1 + 1)), 50))) = some (r1, r2, r3) := H
              have A36 := Aside0.mk A360
              clear A360
              by_cases c37 : t172 = true
              ·subst c37
               have H1 : (if x6_1.length < 2932031007402 then (reveilleref5_Lines.l0 kj17 t161 (x6_1 ++ [(⟨t168, t169, t170, t171⟩ : S60)]) (wrap64 (x7_17 + 1))) else (none)) = some (r1, r2, r3) := by rw [if_pos rfl] at H; exact H
               clear H
               have H := H1
               clear H1
               by_cases c38 : x6_1.length < 2932031007402
               ·rw [if_pos c38] at H
                have LMc38 := Aside0.mk c38
                clear c38
                obtain ⟨y174, hy174⟩ : ∃ y_ : List (S60), y_ = (x6_1 ++ [(⟨t168, t169, t170, t171⟩ : S60)]) := ⟨_, rfl⟩
                replace H : (reveilleref5_Lines.l0 kj17 t161 y174 (wrap64 (x7_17 + 1))) = some (r1, r2, r3) := by first | (rw [hy174]; with_reducible exact H) | (have H2_ := (Option.bind_some _ _).symm.trans H; rw [hy174]; with_reducible exact H2_) | (have H2_ := (Option.bind_some _ _).symm.trans H; with_reducible exact H2_) | with_reducible exact H | (rw [hy174]; exact H) | exact H
                have Ny174 := Aside0.mk hy174
                clear hy174
                have H' := Aside0.mk H
                clear H
                go_wp2_with (first | ((with_reducible refine gate_callee (f := 37) rfl ?_); refine goesL_ (some 84) rfl rfl Tryd.func37 (by kernel_rfl) rfl #[.string x10_17, .int .i64 (wrap64 (x7_1 + 1))] rfl (by (try simp only [List.map_toArray, List.map_cons, List.map_nil]); first | done | rfl | (simp only [List.length_drop, List.length_take]; rfl)) ?_; (with_reducible refine (reveilleref5_line.calls kj17 x10_17 (wrap64 (x7_1 + 1)) t168 t169 t170 t171 true _ A36.out).mono ?_); rintro e w39 ⟨rfl, hb⟩; refine ⟨_, rfl, ?_⟩; have n0_ := Aside0.mk (Kd.R_below (by (with_reducible repeat (first | apply Kd.R_alloc | apply Kd.R_drewN | apply Kd.R_drew)); exact HO_5.out) hb); have n1_ := Aside0.mk (Kd.R_below (by (with_reducible repeat (first | apply Kd.R_alloc | apply Kd.R_drewN | apply Kd.R_drew)); exact HO_6.out) hb); have n2_ := Aside0.mk (below_step (by repeat (first | (with_reducible first | exact HB.out | apply below_alloc | apply pw_below_drewN | apply below_drew1) | exact HB.out)) hb); clear HO_5; clear HO_6; clear HB; have HO_5 := n0_; have HO_6 := n1_; have HB := n2_; clear n0_ n1_ n2_; (try clear hb); (try clear hb2); (try clear hk); (try clear hi)) | ((with_reducible refine gate_dst (N := 11) rfl ?_); (try (refine gate_guard (by rfl) ?_; dsimp only)); refine box_event ?hg (N := 11) ?hd (cs := #[.int .i64 0, .string (⟨#[]⟩ : ByteArray), .string (⟨#[]⟩ : ByteArray), .int .i64 0]) (t := 60) ?hr ?_; (case hd => rfl); (case hg => rfl); (case hr => first | (go_simp; done) | (go_simp; rfl)); intro gb173 hg w40 hbox hb; have n0_ := Aside0.mk (Kd.R_below (by (with_reducible repeat (first | apply Kd.R_alloc | apply Kd.R_drewN | apply Kd.R_drew)); exact HO_5.out) hb); have n1_ := Aside0.mk (Kd.R_below (Kd.R_elderB (by (with_reducible repeat (first | apply Kd.R_alloc | apply Kd.R_drewN | apply Kd.R_drew)); exact HO_6.out) gb173 (Nat.le_of_eq hg.symm)) hb); have n2_ := Aside0.mk (below_step (by repeat (first | (with_reducible first | exact HB.out | apply below_alloc | apply pw_below_drewN | apply below_drew1) | exact HB.out)) hb); have n3_ := Aside0.mk (hbox); have n4_ := Aside0.mk ((by rw [hg]; exact (below_size (by repeat (first | (with_reducible first | exact HB.out | apply below_alloc | apply pw_below_drewN | apply below_drew1) | exact HB.out))) : w.heap.size ≤ gb173)); have n5_ := Aside0.mk ((by rw [hg]; exact (below_size (by repeat (first | (with_reducible first | exact HB.out | apply below_alloc | apply pw_below_drewN | apply below_drew1) | exact HB.out))) : w.heap.size ≤ gb173)); clear HO_5; clear HO_6; clear HB; have HO_5 := n0_; have HO_6 := n1_; have HB := n2_; have BK173 := n3_; have GW173 := n4_; have GE173 := n5_; clear n0_ n1_ n2_ n3_ n4_ n5_; clear hb hbox hg; have hcz41_0 : w40.cell? ⟨gb173, 0, none⟩ = some (.int .i64 0) := (blk_cell BK173.out 0).trans rfl; have hcz41_1 : w40.cell? ⟨gb173, 1, none⟩ = some (.string (⟨#[]⟩ : ByteArray)) := (blk_cell BK173.out 1).trans rfl; have hcz41_2 : w40.cell? ⟨gb173, 2, none⟩ = some (.string (⟨#[]⟩ : ByteArray)) := (blk_cell BK173.out 2).trans rfl; have hcz41_3 : w40.cell? ⟨gb173, 3, none⟩ = some (.int .i64 0) := (blk_cell BK173.out 3).trans rfl; have hfz41_0 := blk_frozen BK173.out 0; have hfz41_1 := blk_frozen BK173.out 1; have hfz41_2 := blk_frozen BK173.out 2; have hfz41_3 := blk_frozen BK173.out 3) | ((with_reducible refine gate_builtin (b := .append) (xs := #[.tmp 90, .tmp 92]) rfl ?_); (try (refine gate_guard (by rfl) ?_; dsimp only)); at_builtin; refine Kd.R_append k60 (w0 := w) w.heap.size rfl (.tmp 90) (.tmp 92) 56 60 (.agg #[(.int .i64 0), (.string ⟨#[]⟩), (.string ⟨#[]⟩), (.int .i64 0)]) 48 rfl Tryd.underlying56 info60 rfl (by decide) (by omega) u6 x6_1 (⟨t168, t169, t170, t171⟩ : S60) [.int .i64 t168, .string t169, .string t170, .int .i64 t171] (fun k_ => k_ ≠ gb173) (fun _ => False) rfl (by first | (go_simp; done) | (go_simp; rfl)) ?aP (fun _ hk => hk.elim) ?aF ?aO ?aB ?aS ?aL ?_; (case aP => exact k60_mkM _ _ _ (⟨t168, t169, t170, t171⟩ : S60)); (case aB => exact (by repeat (first | (with_reducible first | exact HB.out | apply below_alloc | apply pw_below_drewN | apply below_drew1 | refine below_set ?_ GE173.out) | exact HB.out))); (case aF => exact (fun k_ hk => Kd.freshB (g := gb173) (o := .cells #[.int .i64 t168, .string t169, .string t170, .int .i64 t171] 60 (0, 0)) (by (with_reducible repeat (first | refine blk_drewN ?_ _ | refine blk_drew ?_ | refine blk_alloc ?_ _)); refine blk_put (cs := #[.int .i64 t168, .string t169, .string t170, .int .i64 0]) ?_ 3 _ rfl; (with_reducible repeat (first | refine blk_drewN ?_ _ | refine blk_drew ?_ | refine blk_alloc ?_ _)); refine blk_put (cs := #[.int .i64 t168, .string t169, .string (⟨#[]⟩ : ByteArray), .int .i64 0]) ?_ 2 _ rfl; (with_reducible repeat (first | refine blk_drewN ?_ _ | refine blk_drew ?_ | refine blk_alloc ?_ _)); refine blk_put (cs := #[.int .i64 t168, .string (⟨#[]⟩ : ByteArray), .string (⟨#[]⟩ : ByteArray), .int .i64 0]) ?_ 1 _ rfl; (with_reducible repeat (first | refine blk_drewN ?_ _ | refine blk_drew ?_ | refine blk_alloc ?_ _)); refine blk_put (cs := #[.int .i64 0, .string (⟨#[]⟩ : ByteArray), .string (⟨#[]⟩ : ByteArray), .int .i64 0]) ?_ 0 _ rfl; (with_reducible repeat (first | refine blk_drewN ?_ _ | refine blk_drew ?_ | refine blk_alloc ?_ _)); exact BK173.out) k_ hk)); (case aO => exact (by (with_reducible repeat (first | apply Kd.R_alloc | apply Kd.R_drewN | apply Kd.R_drew)); exact Kd.R_mono (Kd.R_far (p := ⟨gb173, 3, none⟩) (Kd.R_far (p := ⟨gb173, 2, none⟩) (Kd.R_far (p := ⟨gb173, 1, none⟩) (Kd.R_far (p := ⟨gb173, 0, none⟩) (Kd.R_mono HO_6.out (fun k_ hk => (⟨hk, hk.2⟩ : _ ∧ k_ ≠ gb173))) (fun _ hk => hk.2) (.int .i64 t168)) (fun _ hk => hk.2) (.string t169)) (fun _ hk => hk.2) (.string t170)) (fun _ hk => hk.2) (.int .i64 t171)) (fun _ hk => hk.1.2))); (case aS => exact (below_size (by repeat (first | (with_reducible first | exact HB.out | apply below_alloc | apply pw_below_drewN | apply below_drew1 | refine below_set ?_ GE173.out) | exact HB.out)))); (case aL => have := LMc38.out; omega); intro v175 w42 ho hb hg hat; rw [← Ny174.out] at ho; have n0_ := Aside0.mk (Kd.R_over' (by (with_reducible repeat (first | apply Kd.R_alloc | apply Kd.R_drewN | apply Kd.R_drew)); exact (Kd.R_mono (Kd.R_far (p := ⟨gb173, 3, none⟩) (Kd.R_far (p := ⟨gb173, 2, none⟩) (Kd.R_far (p := ⟨gb173, 1, none⟩) (Kd.R_far (p := ⟨gb173, 0, none⟩) (Kd.R_types HO_5.out BK173.out (by decide)) (fun _ hk => hk.2) (.int .i64 t168)) (fun _ hk => hk.2) (.string t169)) (fun _ hk => hk.2) (.string t170)) (fun _ hk => hk.2) (.int .i64 t171)) (fun _ h_ => h_.1))) (Kd.R_typed (by (with_reducible repeat (first | apply Kd.R_alloc | apply Kd.R_drewN | apply Kd.R_drew)); exact (Kd.R_mono (Kd.R_far (p := ⟨gb173, 3, none⟩) (Kd.R_far (p := ⟨gb173, 2, none⟩) (Kd.R_far (p := ⟨gb173, 1, none⟩) (Kd.R_far (p := ⟨gb173, 0, none⟩) (Kd.R_mono HO_6.out (fun k_ hk => (⟨hk, hk.2⟩ : _ ∧ k_ ≠ gb173))) (fun _ hk => hk.2) (.int .i64 t168)) (fun _ hk => hk.2) (.string t169)) (fun _ hk => hk.2) (.string t170)) (fun _ hk => hk.2) (.int .i64 t171)) (fun _ h_ => h_.1)))) (by decide) hg); have n1_ := Aside0.mk (blk_grown (g := gb173) (o := .cells #[.int .i64 t168, .string t169, .string t170, .int .i64 t171] 60 (0, 0)) (by (with_reducible repeat (first | refine blk_drewN ?_ _ | refine blk_drew ?_ | refine blk_alloc ?_ _)); refine blk_put (cs := #[.int .i64 t168, .string t169, .string t170, .int .i64 0]) ?_ 3 _ rfl; (with_reducible repeat (first | refine blk_drewN ?_ _ | refine blk_drew ?_ | refine blk_alloc ?_ _)); refine blk_put (cs := #[.int .i64 t168, .string t169, .string (⟨#[]⟩ : ByteArray), .int .i64 0]) ?_ 2 _ rfl; (with_reducible repeat (first | refine blk_drewN ?_ _ | refine blk_drew ?_ | refine blk_alloc ?_ _)); refine blk_put (cs := #[.int .i64 t168, .string (⟨#[]⟩ : ByteArray), .string (⟨#[]⟩ : ByteArray), .int .i64 0]) ?_ 1 _ rfl; (with_reducible repeat (first | refine blk_drewN ?_ _ | refine blk_drew ?_ | refine blk_alloc ?_ _)); refine blk_put (cs := #[.int .i64 0, .string (⟨#[]⟩ : ByteArray), .string (⟨#[]⟩ : ByteArray), .int .i64 0]) ?_ 0 _ rfl; (with_reducible repeat (first | refine blk_drewN ?_ _ | refine blk_drew ?_ | refine blk_alloc ?_ _)); exact BK173.out) hg (Kd.R_away HO_6.out (fun _ hk => hk.2))); have n2_ := Aside0.mk (hb); have n3_ := Aside0.mk (ho); clear HO_5; clear BK173; clear HB; clear HO_6; have HO_5 := n0_; have BK173 := n1_; have HB := n2_; have HO176 := n3_; clear n0_ n1_ n2_ n3_; clear ho hb hg hat))
                go_roundg kj17
                case measure => have := HK1.out; have := HJ7.out; have := HJ17.out; omega
                case rel => exact ⟨(y174), (wrap64 (x7_17 + 1)), (by first | rfl | (simp; done) | (simp [*]; done)), H', ⟨by have := HK1.out; have := HJ7.out; have := HJ17.out; omega⟩, ⟨by (with_reducible repeat (first | apply Kd.R_alloc | apply Kd.R_drewN | apply Kd.R_drew)); exact HO_5.out⟩, ⟨by (with_reducible repeat (first | apply Kd.R_alloc | apply Kd.R_drewN | apply Kd.R_drew)); exact Kd.R_mono HO176.out (fun _ hk => trivial)⟩, ⟨by repeat (first | (with_reducible first | exact HB.out | apply below_alloc | apply pw_below_drewN | apply below_drew1 | refine below_set ?_ GE173.out) | exact HB.out)⟩⟩
               ·rw [if_neg c38] at H
                exact absurd H (by simp)
              ·replace c37 := Bool.eq_false_iff.mpr c37
               subst c37
               have H1 : (some (([] : List (S60)), (wrap64 (x7_1 + 1)), 50)) = some (r1, r2, r3) := by rw [if_neg (show ¬ (false = true) by decide)] at H; exact H
               clear H
               have H := H1
               clear H1
               simp only [Option.some.injEq, Prod.mk.injEq] at H
               obtain ⟨rfl, rfl, rfl⟩ := H
               go_wp2_with (first | ((with_reducible refine gate_callee (f := 37) rfl ?_); refine goesL_ (some 84) rfl rfl Tryd.func37 (by kernel_rfl) rfl #[.string x10_17, .int .i64 (wrap64 (x7_1 + 1))] rfl (by (try simp only [List.map_toArray, List.map_cons, List.map_nil]); first | done | rfl | (simp only [List.length_drop, List.length_take]; rfl)) ?_; (with_reducible refine (reveilleref5_line.calls kj17 x10_17 (wrap64 (x7_1 + 1)) t168 t169 t170 t171 false _ A36.out).mono ?_); rintro e w43 ⟨rfl, hb⟩; refine ⟨_, rfl, ?_⟩; have n0_ := Aside0.mk (Kd.R_below (by (with_reducible repeat (first | apply Kd.R_alloc | apply Kd.R_drewN | apply Kd.R_drew)); exact HO_5.out) hb); have n1_ := Aside0.mk (Kd.R_below (by (with_reducible repeat (first | apply Kd.R_alloc | apply Kd.R_drewN | apply Kd.R_drew)); exact HO_6.out) hb); have n2_ := Aside0.mk (below_step (by repeat (first | (with_reducible first | exact HB.out | apply below_alloc | apply pw_below_drewN | apply below_drew1) | exact HB.out)) hb); clear HO_5; clear HO_6; clear HB; have HO_5 := n0_; have HO_6 := n1_; have HB := n2_; clear n0_ n1_ n2_; (try clear hb); (try clear hb2); (try clear hk); (try clear hi)) | ((with_reducible refine gate_dst (N := 11) rfl ?_); (try (refine gate_guard (by rfl) ?_; dsimp only)); refine box_event ?hg (N := 11) ?hd (cs := #[.int .i64 0, .string (⟨#[]⟩ : ByteArray), .string (⟨#[]⟩ : ByteArray), .int .i64 0]) (t := 60) ?hr ?_; (case hd => rfl); (case hg => rfl); (case hr => first | (go_simp; done) | (go_simp; rfl)); intro gb173 hg w44 hbox hb; have n0_ := Aside0.mk (Kd.R_below (by (with_reducible repeat (first | apply Kd.R_alloc | apply Kd.R_drewN | apply Kd.R_drew)); exact HO_5.out) hb); have n1_ := Aside0.mk (Kd.R_below (Kd.R_elderB (by (with_reducible repeat (first | apply Kd.R_alloc | apply Kd.R_drewN | apply Kd.R_drew)); exact HO_6.out) gb173 (Nat.le_of_eq hg.symm)) hb); have n2_ := Aside0.mk (below_step (by repeat (first | (with_reducible first | exact HB.out | apply below_alloc | apply pw_below_drewN | apply below_drew1) | exact HB.out)) hb); have n3_ := Aside0.mk (hbox); have n4_ := Aside0.mk ((by rw [hg]; exact (below_size (by repeat (first | (with_reducible first | exact HB.out | apply below_alloc | apply pw_below_drewN | apply below_drew1) | exact HB.out))) : w.heap.size ≤ gb173)); have n5_ := Aside0.mk ((by rw [hg]; exact (below_size (by repeat (first | (with_reducible first | exact HB.out | apply below_alloc | apply pw_below_drewN | apply below_drew1) | exact HB.out))) : w.heap.size ≤ gb173)); clear HO_5; clear HO_6; clear HB; have HO_5 := n0_; have HO_6 := n1_; have HB := n2_; have BK173 := n3_; have GW173 := n4_; have GE173 := n5_; clear n0_ n1_ n2_ n3_ n4_ n5_; clear hb hbox hg; have hcz45_0 : w44.cell? ⟨gb173, 0, none⟩ = some (.int .i64 0) := (blk_cell BK173.out 0).trans rfl; have hcz45_1 : w44.cell? ⟨gb173, 1, none⟩ = some (.string (⟨#[]⟩ : ByteArray)) := (blk_cell BK173.out 1).trans rfl; have hcz45_2 : w44.cell? ⟨gb173, 2, none⟩ = some (.string (⟨#[]⟩ : ByteArray)) := (blk_cell BK173.out 2).trans rfl; have hcz45_3 : w44.cell? ⟨gb173, 3, none⟩ = some (.int .i64 0) := (blk_cell BK173.out 3).trans rfl; have hfz45_0 := blk_frozen BK173.out 0; have hfz45_1 := blk_frozen BK173.out 1; have hfz45_2 := blk_frozen BK173.out 2; have hfz45_3 := blk_frozen BK173.out 3))
               go_ret3
               exact ⟨_, by first | rfl | (simp [errW_none, errW_some] <;> rfl) | (simp [*, errW_none, errW_some] <;> rfl), by first | exact Kd.R_nil _ _ _ _ _ | exact Kd.N_nil _ _ _ _ _ | exact Kd.V_nil _ _ _ _ _ | exact Kd.Q_nil _ _ _ _ _ | exact Kd.S_nil _ _ _ _ _, by repeat (first | (with_reducible first | exact HB.out | apply below_alloc | apply pw_below_drewN | apply below_drew1 | refine below_set ?_ GE173.out) | exact HB.out)⟩
          ·rw [if_neg c17] at H
           exact absurd H (by simp)
         ·rw [if_neg c16] at H
          exact absurd H (by simp)
     ·rw [if_neg c6] at H
      exact absurd H (by simp)
    ·rw [if_neg c5] at H
     have c5b0 : decide (x7_1 < (t161.length : Int)) = false := decide_eq_false c5
     clear c5
     simp only [Option.some.injEq, Prod.mk.injEq] at H
     obtain ⟨rfl, rfl, rfl⟩ := H
     obtain ⟨Ao46, co46, eo46⟩ := Kd.R_slice HO_5.out
     subst eo46
     go_wp2
     go_ret3
     exact ⟨_, by first | rfl | (simp [errW_none, errW_some] <;> rfl) | (simp [*, errW_none, errW_some] <;> rfl), by (with_reducible repeat (first | apply Kd.R_alloc | apply Kd.R_drewN | apply Kd.R_drew)); exact HO_6.out, by repeat (first | (with_reducible first | exact HB.out | apply below_alloc | apply pw_below_drewN | apply below_drew1) | exact HB.out)⟩



end Go.Proofs.YtbigbjfppaenfaaDoor.Lines
