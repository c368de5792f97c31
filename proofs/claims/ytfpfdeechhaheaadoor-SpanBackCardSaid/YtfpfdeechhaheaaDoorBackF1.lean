/- Out of the program's functions that the law reaches, part 3: what each computes, and that the machine computes it. -/
import Derived.Test.YtfpfdeechhaheaaDoorBackF0
namespace Go.Proofs.YtfpfdeechhaheaaDoor.Reads
open Go.RowKit Go.Proofs.YtfpfdeechhaheaaDoorW.PrintWords Go.Proofs.YtfpfdeechhaheaaDoorW.PrintLast
set_option linter.unusedVariables false
set_option linter.unusedSimpArgs false
theorem info9 : (Tryd.prog.info? 9).map (fun i => (i.zero, i.size, i.bytes)) = some (some (.string ⟨#[]⟩), 1, 16) := by kernel_rfl
def U5 : List S57 := [(⟨(⟨#[119]⟩ : ByteArray), 604800⟩ : S57), (⟨(⟨#[100]⟩ : ByteArray), 86400⟩ : S57), (⟨(⟨#[104]⟩ : ByteArray), 3600⟩ : S57), (⟨(⟨#[109, 105, 110]⟩ : ByteArray), 60⟩ : S57), (⟨(⟨#[115]⟩ : ByteArray), 1⟩ : S57)]
theorem idx5 (w : World) (i : Int) (h0 : 0 ≤ i) (h5 : i < 5) : (Instr.index 58 (.agg #[.string ⟨#[119]⟩, .int .u64 604800, .string ⟨#[100]⟩, .int .u64 86400, .string ⟨#[104]⟩, .int .u64 3600, .string ⟨#[109, 105, 110]⟩, .int .u64 60, .string ⟨#[115]⟩, .int .u64 1]) (.int .i64 i)).run Tryd.prog w = .ok (.agg #[.string (rd_T57 U5 i).f0, .int .u64 (rd_T57 U5 i).f1]) w := by
  rcases (by omega : i = 0 ∨ i = 1 ∨ i = 2 ∨ i = 3 ∨ i = 4) with rfl | rfl | rfl | rfl | rfl <;> kernel_rfl
mutual
def span_Print.l0 : Nat → Int → List ByteArray → List (S57) → Int → Option (ByteArray)
  | 0, _, _, _, _ => none
  | k + 1, x0, x3, x28, x29 => if x29 < 5 then (if 0 ≤ x29 then (if x29 < (x28.length : Int) then (if (wrap64 ((rd_T57 x28 x29).f1)) = 0 then (none) else (if (wrap64 (Int.tdiv x0 (wrap64 ((rd_T57 x28 x29).f1)))) > 0 then ((strconv_FormatInt_25.f (wrap64 (Int.tdiv x0 (wrap64 ((rd_T57 x28 x29).f1)))) 10).bind fun t180 => (if t180.size + ((rd_T57 x28 x29).f0).size ≤ 9223372036854775807 then (if x3.length < 8796093022208 then (span_Print.l0 k (Int.tmod x0 (wrap64 ((rd_T57 x28 x29).f1))) (x3 ++ [t180 ++ ((rd_T57 x28 x29).f0)]) x28 (wrap64 (x29 + 1))) else (none)) else (none))) else (span_Print.l0 k (Int.tmod x0 (wrap64 ((rd_T57 x28 x29).f1))) x3 x28 (wrap64 (x29 + 1))))) else (none)) else (none)) else ((strings_Join.f x3 (⟨#[32]⟩ : ByteArray)).bind fun t184 => (some t184))
def span_Print.f : Nat → Int → Option (ByteArray)
  | 0, _ => none
  | k + 1, a0 => if a0 = 9223372036854775807 then (some (⟨#[105, 110, 102, 105, 110, 105, 116, 121]⟩ : ByteArray)) else (if a0 = (-9223372036854775808) then (some (⟨#[45, 105, 110, 102, 105, 110, 105, 116, 121]⟩ : ByteArray)) else (if a0 < 0 then (none) else (if a0 = 0 then (some (⟨#[48, 115]⟩ : ByteArray)) else (span_Print.l0 k a0 ([] : List ByteArray) U5 0))))
end
theorem span_Print.mono_l : ∀ k, (∀ y0, LeO (span_Print.f k y0) (span_Print.f (k + 1) y0)) ∧ (∀ y0 y1 y2 y3, LeO (span_Print.l0 k y0 y1 y2 y3) (span_Print.l0 (k + 1) y0 y1 y2 y3))
  | 0 => ⟨fun _ r h => by simp [span_Print.f] at h, fun _ _ _ _ r h => by simp [span_Print.l0] at h⟩
  | k + 1 => by
    obtain ⟨ih0, ih1⟩ := span_Print.mono_l k
    refine ⟨?_, ?_⟩
    · intro y0
      unfold span_Print.f
      repeat' first
      | (with_reducible exact ih0 _)
      | (with_reducible exact ih1 _ _ _ _)
      | (with_reducible exact LeO.refl _)
      | (with_reducible exact LeO.none _)
      | (with_reducible refine LeO.ite ?_ ?_)
      | (with_reducible refine LeO.bind ?_ (fun _ => ?_))
      | exact ih0 _
      | exact ih1 _ _ _ _
      | exact LeO.none _
      | refine LeO.ite ?_ ?_
      | refine LeO.bind ?_ (fun _ => ?_)
    · intro y0 y1 y2 y3
      unfold span_Print.l0
      repeat' first
      | (with_reducible exact ih0 _)
      | (with_reducible exact ih1 _ _ _ _)
      | (with_reducible exact LeO.refl _)
      | (with_reducible exact LeO.none _)
      | (with_reducible refine LeO.ite ?_ ?_)
      | (with_reducible refine LeO.bind ?_ (fun _ => ?_))
      | exact ih0 _
      | exact ih1 _ _ _ _
      | exact LeO.none _
      | refine LeO.ite ?_ ?_
      | refine LeO.bind ?_ (fun _ => ?_)
theorem span_Print.mono : ∀ a0 k, LeO (span_Print.f k a0) (span_Print.f (k + 1) a0) := by
  intro a0 k
  obtain ⟨ih0, ih1⟩ := span_Print.mono_l k
  exact ih0 a0
def span_Print.T15 : Bool × List (List Nat × List Nat) := (true, [([], []), ([], []), ([1], [1]), ([], []), ([3], [3]), ([2, 4], [2, 4]), ([5], [5]), ([0, 6, 2], [0, 6]), ([7, 7, 0, 1, 2, 3, 4, 5, 6, 7], [0, 7])])
def span_Print.B15 : List Nat := [0, 0, 2, 0, 8, 30, 62, 127, 255]
theorem span_Print.tab15 : rtab .any (opsOf Tryd.f11 15) = span_Print.T15 := by kernel_rfl
theorem span_Print.bits15 : waitsOk span_Print.T15.2 span_Print.B15 = true := by kernel_rfl
set_option maxHeartbeats 8000000 in
set_option maxRecDepth 100000 in
theorem span_Print.calls (k : Nat) (a0 : Int) (r : ByteArray) (w : World) (h : span_Print.f k a0 = some r) (hG : GT w) :
    Calls Tryd.prog 11 #[.int .i64 a0] w fun e w' => e = .returned (.string r) ∧ Below w.heap.size w w' := by
  have HG := Aside0.mk hG
  clear hG
  cases k with
  | zero => exact absurd h (by simp [span_Print.f])
  | succ k =>
  simp only [span_Print.f] at h
  have hu57 := Tryd.underlying57
  have HB := Aside0.mk (Below.refl w.heap.size w)
  have H : (if a0 = 9223372036854775807 then (some (⟨#[105, 110, 102, 105, 110, 105, 116, 121]⟩ : ByteArray)) else (if a0 = (-9223372036854775808) then (some (⟨#[45, 105, 110, 102, 105, 110, 105, 116, 121]⟩ : ByteArray)) else (if a0 < 0 then (none) else (if a0 = 0 then (some (⟨#[48, 115]⟩ : ByteArray)) else (span_Print.l0 k a0 ([] : List ByteArray) U5 0))))) = some r := h
  clear h
  by_cases c2 : a0 = 9223372036854775807
  · rw [if_pos c2] at H
    have c2b0 : (a0 == 9223372036854775807) = true := beq_iff_eq.mpr c2
    have c2b1 : (a0 != 9223372036854775807) = false := bne_eq_false_iff_eq.mpr c2
    clear c2
    obtain rfl := Option.some.inj H
    go_enter Tryd.func11, Tryd.ntmps11
    go_wp2
    go_ret
    exact ⟨by first | rfl | (simp [errW_none, errW_some] <;> rfl) | (simp [*, errW_none, errW_some] <;> rfl), by repeat (first | (with_reducible first | exact HB.out | apply below_alloc | apply pw_below_drewN | apply below_drew1) | exact HB.out)⟩
  · rw [if_neg c2] at H
    have c2b0 : (a0 == 9223372036854775807) = false := beq_eq_false_iff_ne.mpr c2
    have c2b1 : (a0 != 9223372036854775807) = true := bne_iff_ne.mpr c2
    by_cases c3 : a0 = (-9223372036854775808)
    · rw [if_pos c3] at H
      have c3b0 : (a0 == (-9223372036854775808)) = true := beq_iff_eq.mpr c3
      have c3b1 : (a0 != (-9223372036854775808)) = false := bne_eq_false_iff_eq.mpr c3
      clear c3
      obtain rfl := Option.some.inj H
      go_enter Tryd.func11, Tryd.ntmps11
      go_wp2
      go_ret
      exact ⟨by first | rfl | (simp [errW_none, errW_some] <;> rfl) | (simp [*, errW_none, errW_some] <;> rfl), by repeat (first | (with_reducible first | exact HB.out | apply below_alloc | apply pw_below_drewN | apply below_drew1) | exact HB.out)⟩
    · rw [if_neg c3] at H
      have c3b0 : (a0 == (-9223372036854775808)) = false := beq_eq_false_iff_ne.mpr c3
      have c3b1 : (a0 != (-9223372036854775808)) = true := bne_iff_ne.mpr c3
      by_cases c4 : a0 < 0
      · rw [if_pos c4] at H
        have c4b0 : decide (a0 < 0) = true := decide_eq_true c4
        clear c4
        exact absurd H (by simp)
      · rw [if_neg c4] at H
        have c4b0 : decide (a0 < 0) = false := decide_eq_false c4
        clear c4
        by_cases c5 : a0 = 0
        · rw [if_pos c5] at H
          have c5b0 : (a0 == 0) = true := beq_iff_eq.mpr c5
          have c5b1 : (a0 != 0) = false := bne_eq_false_iff_eq.mpr c5
          clear c5
          obtain rfl := Option.some.inj H
          go_enter Tryd.func11, Tryd.ntmps11
          go_wp2
          go_ret
          exact ⟨by first | rfl | (simp [errW_none, errW_some] <;> rfl) | (simp [*, errW_none, errW_some] <;> rfl), by repeat (first | (with_reducible first | exact HB.out | apply below_alloc | apply pw_below_drewN | apply below_drew1) | exact HB.out)⟩
        · rw [if_neg c5] at H
          have c5b0 : (a0 == 0) = false := beq_eq_false_iff_ne.mpr c5
          have c5b1 : (a0 != 0) = true := bne_iff_ne.mpr c5
          have H' := Aside0.mk H
          clear H
          go_enter Tryd.func11, Tryd.ntmps11
          go_wp2
          go_loopg [0, 3, 29] k (fun kq v0 v3 v29 w' => ∃ (x0_1 : Int) (x3_1 : List ByteArray) (x29_1 : Int), v0 = .int .i64 x0_1 ∧ v29 = .int .i64 x29_1 ∧ Aside0 (span_Print.l0 kq x0_1 x3_1 U5 x29_1 = some r) ∧ Aside0 (kq ≤ k) ∧ Aside0 (Kd.R Kd.string 9 w' w.heap.size (fun _ => True) v3 x3_1) ∧ Aside0 (Kd.R k57 57 w' w.heap.size (fun _ => True) (.slice none 0 0) ([] : List S57)) ∧ Aside0 (Below w.heap.size w w'))
          case atStart => exact ⟨(a0), (([] : List ByteArray)), (0), (by first | rfl | (simp; done) | (simp [*]; done)), (by first | rfl | (simp; done) | (simp [*]; done)), H', ⟨Nat.le_refl _⟩, ⟨by first | exact Kd.R_nil _ _ _ _ _ | exact Kd.N_nil _ _ _ _ _ | exact Kd.V_nil _ _ _ _ _ | exact Kd.Q_nil _ _ _ _ _ | exact Kd.S_nil _ _ _ _ _⟩, ⟨by (with_reducible repeat (first | apply Kd.R_alloc | apply Kd.R_drewN | apply Kd.R_drew)); exact (Kd.R_nil _ _ _ _ _)⟩, ⟨by repeat (first | (with_reducible first | exact HB.out | apply below_alloc | apply pw_below_drewN | apply below_drew1) | exact HB.out)⟩⟩
          case round =>
            clear H'
            try clear c1
            try clear c2
            try clear c2b0
            try clear c2b1
            try clear p2
            try clear c3
            try clear c3b0
            try clear c3b1
            try clear c4
            try clear c4b0
            try clear c5
            try clear c5b0
            try clear c5b1
            obtain ⟨x0_1, x3_1, x29_1, rfl, rfl, HA, HK1, HO_3, HO_28, HB⟩ := hrel
            cases gk with
            | zero => exact absurd HA.out (by simp [span_Print.l0])
            | succ k1 =>
              have H := HA.out
              clear HA
              simp only [span_Print.l0] at H
              by_cases c8 : x29_1 < 5
              · rw [if_pos c8] at H
                have c8b0 : decide (x29_1 < 5) = true := decide_eq_true c8
                clear c8
                by_cases c9 : 0 ≤ x29_1
                · rw [if_pos c9] at H
                  have c9b0 : decide (0 ≤ x29_1) = true := decide_eq_true c9
                  clear c9
                  by_cases c10 : x29_1 < (U5.length : Int)
                  · rw [if_pos c10] at H
                    have c10b0 : decide (x29_1 < (U5.length : Int)) = true := decide_eq_true c10
                    clear c10
                    by_cases c11 : (wrap64 ((rd_T57 U5 x29_1).f1)) = 0
                    · rw [if_pos c11] at H
                      exact absurd H (by simp)
                    · rw [if_neg c11] at H
                      have c11b0 : ((wrap64 ((rd_T57 U5 x29_1).f1)) == 0) = false := beq_eq_false_iff_ne.mpr c11
                      have c11b1 : ((wrap64 ((rd_T57 U5 x29_1).f1)) != 0) = true := bne_iff_ne.mpr c11
                      by_cases c12 : (wrap64 (Int.tdiv x0_1 (wrap64 ((rd_T57 U5 x29_1).f1)))) > 0
                      · rw [if_pos c12] at H
                        have c12b0 : decide (0 < (wrap64 (Int.tdiv x0_1 (wrap64 ((rd_T57 U5 x29_1).f1))))) = true := decide_eq_true c12
                        clear c12
                        replace H := Option.bind_eq_some_iff.mp H
                        obtain ⟨t180, A130, H⟩ := H
                        replace H : (if t180.size + ((rd_T57 U5 x29_1).f0).size ≤ 9223372036854775807 then (if x3_1.length < 8796093022208 then (span_Print.l0 k1 (Int.tmod x0_1 (wrap64 ((rd_T57 U5 x29_1).f1))) (x3_1 ++ [t180 ++ ((rd_T57 U5 x29_1).f0)]) U5 (wrap64 (x29_1 + 1))) else (none)) else (none)) = some r := H
                        have A13 := Aside0.mk A130
                        clear A130
                        by_cases c14 : t180.size + ((rd_T57 U5 x29_1).f0).size ≤ 9223372036854775807
                        · rw [if_pos c14] at H
                          have c14b0 := eq_true c14
                          have c14b1 : decide (t180.size + ((rd_T57 U5 x29_1).f0).size ≤ 9223372036854775807) = true := decide_eq_true c14
                          try have c14b2 : (9223372036854775807 < t180.size + ((rd_T57 U5 x29_1).f0).size) = False := eq_false (Nat.not_lt.2 c14)
                          by_cases c15 : x3_1.length < 8796093022208
                          · rw [if_pos c15] at H
                            have LMc15 := Aside0.mk c15
                            clear c15
                            obtain ⟨y181, hy181⟩ : ∃ y_ : List ByteArray, y_ = (x3_1 ++ [t180 ++ ((rd_T57 U5 x29_1).f0)]) := ⟨_, rfl⟩
                            replace H : (span_Print.l0 k1 (Int.tmod x0_1 (wrap64 ((rd_T57 U5 x29_1).f1))) y181 U5 (wrap64 (x29_1 + 1))) = some r := by first | (rw [hy181]; with_reducible exact H) | (have H2_ := (Option.bind_some _ _).symm.trans H; rw [hy181]; with_reducible exact H2_) | (have H2_ := (Option.bind_some _ _).symm.trans H; with_reducible exact H2_) | with_reducible exact H | (rw [hy181]; exact H) | exact H
                            have Ny181 := Aside0.mk hy181
                            clear hy181
                            have H' := Aside0.mk H
                            clear H
                            have gi0 : 0 ≤ x29_1 := of_decide_eq_true c9b0
                            have gi5 : x29_1 < 5 := of_decide_eq_true c8b0
                            have hidx := fun w' => idx5 w' x29_1 gi0 gi5
                            replace gi0 := eq_true gi0
                            replace gi5 := eq_true gi5
                            try go_wp2_with (first | ((with_reducible refine gate_dst (N := 5) rfl ?_); refine box_event ?hg (N := 5) ?hd (cs := #[.string (⟨#[]⟩ : ByteArray), .int .u64 0]) (t := 57) ?hr ?_; (case hd => rfl); (case hg => rfl); (case hr => first | (go_simp; done) | (go_simp; rfl)); intro gb179 hg w17 hbox hb; have n0_ := Aside0.mk (Kd.R_below (by (with_reducible repeat (first | apply Kd.R_alloc | apply Kd.R_drewN | apply Kd.R_drew)); exact HO_3.out) hb); have n1_ := Aside0.mk (Kd.R_below (Kd.R_elderB (by (with_reducible repeat (first | apply Kd.R_alloc | apply Kd.R_drewN | apply Kd.R_drew)); exact HO_28.out) gb179 (Nat.le_of_eq hg.symm)) hb); have n2_ := Aside0.mk (below_step (by repeat (first | (with_reducible first | exact HB.out | apply below_alloc | apply pw_below_drewN | apply below_drew1) | exact HB.out)) hb); have n3_ := Aside0.mk (hbox); have n4_ := Aside0.mk ((by rw [hg]; exact (below_size (by repeat (first | (with_reducible first | exact HB.out | apply below_alloc | apply pw_below_drewN | apply below_drew1) | exact HB.out))) : w.heap.size ≤ gb179)); have n5_ := Aside0.mk ((by rw [hg]; exact (below_size (by repeat (first | (with_reducible first | exact HB.out | apply below_alloc | apply pw_below_drewN | apply below_drew1) | exact HB.out))) : w.heap.size ≤ gb179)); clear HO_3; clear HO_28; clear HB; have HO_3 := n0_; have HO_28 := n1_; have HB := n2_; have BK179 := n3_; have GW179 := n4_; have GE179 := n5_; clear n0_ n1_ n2_ n3_ n4_ n5_; clear hb hbox hg; have hcz18_0 : w17.cell? ⟨gb179, 0, none⟩ = some (.string (⟨#[]⟩ : ByteArray)) := (blk_cell BK179.out 0).trans rfl; have hcz18_1 : w17.cell? ⟨gb179, 1, none⟩ = some (.int .u64 0) := (blk_cell BK179.out 1).trans rfl; have hfz18_0 := blk_frozen BK179.out 0; have hfz18_1 := blk_frozen BK179.out 1))
                            have n0_ : Aside0 (Kd.R Kd.string 9 ((w17.setCell ⟨gb179, 0, none⟩ (.string ((rd_T57 U5 x29_1).f0))).setCell ⟨gb179, 1, none⟩ (.int .u64 ((rd_T57 U5 x29_1).f1))) w.heap.size (fun _ => True) u3 x3_1) := ⟨by (with_reducible repeat (first | apply Kd.R_alloc | apply Kd.R_drewN | apply Kd.R_drew)); exact Kd.R_mono (Kd.R_far (p := ⟨gb179, 1, none⟩) (Kd.R_far (p := ⟨gb179, 0, none⟩) (Kd.R_types HO_3.out BK179.out (by decide)) (fun _ hk => hk.2) (.string ((rd_T57 U5 x29_1).f0))) (fun _ hk => hk.2) (.int .u64 ((rd_T57 U5 x29_1).f1))) (fun _ hk => trivial)⟩
                            have n1_ : Aside0 (Kd.R k57 57 ((w17.setCell ⟨gb179, 0, none⟩ (.string ((rd_T57 U5 x29_1).f0))).setCell ⟨gb179, 1, none⟩ (.int .u64 ((rd_T57 U5 x29_1).f1))) w.heap.size (fun k_ => k_ ≠ gb179) (.slice none 0 0) ([] : List S57)) := ⟨by (with_reducible repeat (first | apply Kd.R_alloc | apply Kd.R_drewN | apply Kd.R_drew)); exact Kd.R_mono (Kd.R_far (p := ⟨gb179, 1, none⟩) (Kd.R_far (p := ⟨gb179, 0, none⟩) (Kd.R_mono HO_28.out (fun k_ hk => (⟨hk, hk.2⟩ : _ ∧ k_ ≠ gb179))) (fun _ hk => hk.2) (.string ((rd_T57 U5 x29_1).f0))) (fun _ hk => hk.2) (.int .u64 ((rd_T57 U5 x29_1).f1))) (fun _ hk => hk.1.2)⟩
                            have n2_ : Aside0 (((w17.setCell ⟨gb179, 0, none⟩ (.string ((rd_T57 U5 x29_1).f0))).setCell ⟨gb179, 1, none⟩ (.int .u64 ((rd_T57 U5 x29_1).f1))).heap[gb179]? = some (.cells #[.string ((rd_T57 U5 x29_1).f0), .int .u64 ((rd_T57 U5 x29_1).f1)] 57 (0, 0))) := ⟨by (with_reducible repeat (first | refine blk_drewN ?_ _ | refine blk_drew ?_ | refine blk_alloc ?_ _)); refine blk_put (cs := #[.string ((rd_T57 U5 x29_1).f0), .int .u64 0]) ?_ 1 _ rfl; (with_reducible repeat (first | refine blk_drewN ?_ _ | refine blk_drew ?_ | refine blk_alloc ?_ _)); refine blk_put (cs := #[.string (⟨#[]⟩ : ByteArray), .int .u64 0]) ?_ 0 _ rfl; (with_reducible repeat (first | refine blk_drewN ?_ _ | refine blk_drew ?_ | refine blk_alloc ?_ _)); exact BK179.out⟩
                            have n3_ : Aside0 (Below w.heap.size w ((w17.setCell ⟨gb179, 0, none⟩ (.string ((rd_T57 U5 x29_1).f0))).setCell ⟨gb179, 1, none⟩ (.int .u64 ((rd_T57 U5 x29_1).f1)))) := ⟨by repeat (first | (with_reducible first | exact HB.out | apply below_alloc | apply pw_below_drewN | apply below_drew1 | refine below_set ?_ GE179.out) | exact HB.out)⟩
                            (try clear HO_3)
                            (try clear HO_28)
                            (try clear BK179)
                            (try clear HB)
                            generalize ((w17.setCell ⟨gb179, 0, none⟩ (.string ((rd_T57 U5 x29_1).f0))).setCell ⟨gb179, 1, none⟩ (.int .u64 ((rd_T57 U5 x29_1).f1))) = w19 at n0_ n1_ n2_ n3_ ⊢
                            have HO_3 := n0_
                            have HO_28 := n1_
                            have BK179 := n2_
                            have HB := n3_
                            clear n0_ n1_ n2_ n3_
                            have n0_ := Aside0.mk (Kd.R_drew HO_3.out)
                            have n1_ := Aside0.mk (Kd.R_drew HO_28.out)
                            have n2_ := Aside0.mk (blk_drew BK179.out)
                            have n3_ := Aside0.mk (below_drew1 HB.out)
                            clear HO_3
                            clear HO_28
                            clear BK179
                            clear HB
                            have HO_3 := n0_
                            have HO_28 := n1_
                            have BK179 := n2_
                            have HB := n3_
                            clear n0_ n1_ n2_ n3_
                            refine start_ (n := 9) (S := fun w' => w'.cell? ⟨gb179, 0, none⟩ = some (.string ((rd_T57 U5 x29_1).f0)) ∧ w'.cell? ⟨gb179, 1, none⟩ = some (.int .u64 ((rd_T57 U5 x29_1).f1))) (ds := []) #[false, false, false, false, false, false, false, false, false] (by kernel_rfl) rfl rfl ⟨(blk_cell BK179.out 0).trans rfl, (blk_cell BK179.out 1).trans rfl⟩ (fun hHeld => ?_); refine with_tabW span_Print.tab15 span_Print.bits15 (fun HT_ HW_ => ?_)
                            generalize w19.drew = w20 at HO_3 HO_28 BK179 HB hHeld ⊢
                            refine pure_ (i := 0) (N := some 39) (v := ?_) (a' := ?_) #[true, false, false, false, false, false, false, false, false] rfl rfl (any_of HT_.out (by kernel_rfl)) (fun _ _ _ h => h) (Or.inl ⟨by rfl, ?_⟩) ?_ ?_
                            rotate_left
                            · intro w'
                              go_simp
                              with_reducible rfl
                            rotate_left
                            · simp only [Act.put, List.setIfInBounds_toArray, List.set_cons_zero, List.set_cons_succ, i64_w, i32_w]
                              rfl
                            refine pure_ (i := 1) (N := some 40) (v := ?_) (a' := ?_) #[true, true, false, false, false, false, false, false, false] rfl rfl (any_of HT_.out (by kernel_rfl)) (fun _ _ _ h => h) (Or.inl ⟨by rfl, ?_⟩) ?_ ?_
                            rotate_left
                            · intro w'
                              go_simp
                              with_reducible rfl
                            rotate_left
                            · simp only [Act.put, List.setIfInBounds_toArray, List.set_cons_zero, List.set_cons_succ, i64_w, i32_w]
                              rfl
                            refine pure_ (i := 3) (N := some 42) (v := ?_) (a' := ?_) #[true, true, false, true, false, false, false, false, false] rfl rfl (any_of HT_.out (by kernel_rfl)) (fun _ _ _ h => h) (Or.inl ⟨by rfl, ?_⟩) ?_ ?_
                            rotate_left
                            · intro w'
                              go_simp
                              with_reducible rfl
                            rotate_left
                            · simp only [Act.put, List.setIfInBounds_toArray, List.set_cons_zero, List.set_cons_succ, i64_w, i32_w]
                              rfl
                            refine take_ (i := 4) (N := some 43) (v := ?_) (a' := ?_) #[true, true, false, true, true, false, false, false, false] rfl rfl (take_ofW HT_.out HW_.out (by kernel_rfl)) (fun _ _ _ h => h) (Or.inl ⟨by rfl, ?_⟩) hHeld ?_ ?_
                            rotate_left
                            · rintro w' ⟨s0, s1⟩
                              go_simp
                              with_reducible rfl
                            rotate_left
                            · simp only [Act.put, List.setIfInBounds_toArray, List.set_cons_zero, List.set_cons_succ, i64_w, i32_w]
                              rfl
                            refine one_ (i := 2) (N := some 41) #[true, true, true, true, true, false, false, false, false] rfl rfl (one_of HT_.out (by kernel_rfl)) (by decide) (fun K hK => ?_)
                            refine goes_ Tryd.func25 (by kernel_rfl) rfl #[.int .i64 (wrap64 (Int.tdiv x0_1 (wrap64 ((rd_T57 U5 x29_1).f1)))), .int .i64 10] (by rfl) rfl rfl (by (try simp only [List.map_toArray, List.map_cons, List.map_nil]); first | done | rfl | (simp only [List.length_drop, List.length_take]; rfl)) ?_
                            with_reducible refine (strconv_FormatInt_25.calls (wrap64 (Int.tdiv x0_1 (wrap64 ((rd_T57 U5 x29_1).f1)))) 10 t180 _ A13.out (GT.below HG.out (by repeat (first | (with_reducible first | exact HB.out | apply below_alloc | apply pw_below_drewN | apply below_drew1 | refine below_set ?_ GE179.out) | exact HB.out)))).mono ?_
                            rintro e w21 ⟨rfl, hb⟩
                            refine ⟨_, rfl, ?_⟩
                            have n0_ := Aside0.mk (Kd.R_below (by (with_reducible repeat (first | apply Kd.R_alloc | apply Kd.R_drewN | apply Kd.R_drew)); exact HO_3.out) hb)
                            have n1_ := Aside0.mk (Kd.R_below (by (with_reducible repeat (first | apply Kd.R_alloc | apply Kd.R_drewN | apply Kd.R_drew)); exact HO_28.out) hb)
                            have n2_ := Aside0.mk (blk_below (g := gb179) (o := .cells #[.string ((rd_T57 U5 x29_1).f0), .int .u64 ((rd_T57 U5 x29_1).f1)] 57 (0, 0)) (by (with_reducible repeat (first | refine blk_drewN ?_ _ | refine blk_drew ?_ | refine blk_alloc ?_ _)); exact BK179.out) hb)
                            have n3_ := Aside0.mk (below_step (by repeat (first | (with_reducible first | exact HB.out | apply below_alloc | apply pw_below_drewN | apply below_drew1 | refine below_set ?_ GE179.out) | exact HB.out)) hb)
                            clear HO_3
                            clear HO_28
                            clear BK179
                            clear HB
                            have HO_3 := n0_
                            have HO_28 := n1_
                            have BK179 := n2_
                            have HB := n3_
                            clear n0_ n1_ n2_ n3_
                            (try clear hb)
                            (try clear hb2)
                            (try clear hk)
                            (try clear hi)
                            refine hK.out _ _ ⟨(blk_cell BK179.out 0).trans rfl, (blk_cell BK179.out 1).trans rfl⟩ (fun hHeld => ?_)
                            clear hK K
                            refine norm_ (a' := ?_) ?_ ?_
                            rotate_left
                            · show Act.put _ (some 41) _ = _
                              simp only [Act.put, List.setIfInBounds_toArray, List.set_cons_zero, List.set_cons_succ, i64_w, i32_w]
                              rfl
                            refine pure_ (i := 5) (N := some 44) (v := ?_) (a' := ?_) #[true, true, true, true, true, true, false, false, false] rfl rfl (any_of HT_.out (by kernel_rfl)) (fun _ _ _ h => h) (Or.inl ⟨by rfl, ?_⟩) ?_ ?_
                            rotate_left
                            · intro w'
                              go_simp
                              with_reducible rfl
                            rotate_left
                            · simp only [Act.put, List.setIfInBounds_toArray, List.set_cons_zero, List.set_cons_succ, i64_w, i32_w]
                              rfl
                            refine one_ (i := 6) (N := some 45) #[true, true, true, true, true, true, true, false, false] rfl rfl (one_of HT_.out (by kernel_rfl)) (by decide) (fun K hK => ?_)
                            refine value_ (w1 := ?_) (v := ?_) (by rfl) rfl ?_ ?_
                            rotate_left 2
                            · go_simp
                              constructor
                              · rfl
                              · rfl
                            refine hK.out _ _ ⟨(blk_cell (blk_alloc BK179.out _) 0).trans rfl, (blk_cell (blk_alloc BK179.out _) 1).trans rfl⟩ (fun hHeld => ?_)
                            clear hK K
                            refine norm_ (a' := ?_) ?_ ?_
                            rotate_left
                            · show Act.put _ (some 45) _ = _
                              simp only [Act.put, List.setIfInBounds_toArray, List.set_cons_zero, List.set_cons_succ, i64_w, i32_w]
                              rfl
                            refine one_ (i := 7) (N := some 46) #[true, true, true, true, true, true, true, true, false] rfl rfl (one_of HT_.out (by kernel_rfl)) (by decide) (fun K hK => ?_)
                            refine Kd.R_append_step Kd.string (w0 := w) w.heap.size (by rfl) (.tmp 39) (.tmp 45) 55 9 (.string ⟨#[]⟩) 16 rfl Tryd.underlying55 info9 rfl (by decide) (by omega) u3 x3_1 (t180 ++ ((rd_T57 U5 x29_1).f0)) [.string (t180 ++ ((rd_T57 U5 x29_1).f0))] (fun _ => True) (fun _ => False) rfl rfl ?aP (fun _ hk => hk.elim) ?aF ?aO ?aB ?aS ?aL ?_
                            (case aP => exact rfl)
                            (case aB => exact (by repeat (first | (with_reducible first | exact HB.out | apply below_alloc | apply pw_below_drewN | apply below_drew1 | refine below_set ?_ GE179.out) | exact HB.out)))
                            (case aF => exact (fun _ _ => trivial))
                            (case aO => exact (by (with_reducible repeat (first | apply Kd.R_alloc | apply Kd.R_drewN | apply Kd.R_drew)); exact HO_3.out))
                            (case aS => exact (below_size (by repeat (first | (with_reducible first | exact HB.out | apply below_alloc | apply pw_below_drewN | apply below_drew1 | refine below_set ?_ GE179.out) | exact HB.out))))
                            (case aL => have := LMc15.out; omega)
                            intro v182 w22 ho hb hg hat
                            rw [← Ny181.out] at ho
                            have n0_ := Aside0.mk (Kd.R_over' (by (with_reducible repeat (first | apply Kd.R_alloc | apply Kd.R_drewN | apply Kd.R_drew)); exact HO_28.out) (Kd.R_typed (by (with_reducible repeat (first | apply Kd.R_alloc | apply Kd.R_drewN | apply Kd.R_drew)); exact HO_3.out)) (by decide) hg)
                            have n1_ := Aside0.mk (blk_grown (g := gb179) (o := .cells #[.string ((rd_T57 U5 x29_1).f0), .int .u64 ((rd_T57 U5 x29_1).f1)] 57 (0, 0)) (by (with_reducible repeat (first | refine blk_drewN ?_ _ | refine blk_drew ?_ | refine blk_alloc ?_ _)); exact BK179.out) hg (Kd.R_ne HO_3.out BK179.out (by decide)))
                            have n2_ := Aside0.mk (hb)
                            have n3_ := Aside0.mk (ho)
                            clear HO_28
                            clear BK179
                            clear HB
                            clear HO_3
                            have HO_28 := n0_
                            have BK179 := n1_
                            have HB := n2_
                            have HO183 := n3_
                            clear n0_ n1_ n2_ n3_
                            clear ho hb hg hat
                            refine hK.out _ _ ⟨(blk_cell BK179.out 0).trans rfl, (blk_cell BK179.out 1).trans rfl⟩ (fun hHeld => ?_)
                            clear hK K
                            refine norm_ (a' := ?_) ?_ ?_
                            rotate_left
                            · show Act.put _ (some 46) _ = _
                              simp only [Act.put, List.setIfInBounds_toArray, List.set_cons_zero, List.set_cons_succ, i64_w, i32_w]
                              rfl
                            refine pure_ (i := 8) (N := some 3) (v := ?_) (a' := ?_) #[true, true, true, true, true, true, true, true, true] rfl rfl (any_of HT_.out (by kernel_rfl)) (fun _ _ _ h => h) (Or.inl ⟨by rfl, ?_⟩) ?_ ?_
                            rotate_left
                            · intro w'
                              go_simp
                              with_reducible rfl
                            rotate_left
                            · simp only [Act.put, List.setIfInBounds_toArray, List.set_cons_zero, List.set_cons_succ, i64_w, i32_w]
                              rfl
                            refine done_ (done_of HT_.out (by kernel_rfl)) ?_
                            have hcz23_0 : w22.cell? ⟨gb179, 0, none⟩ = some (.string ((rd_T57 U5 x29_1).f0)) := (blk_cell BK179.out 0).trans rfl
                            have hcz23_1 : w22.cell? ⟨gb179, 1, none⟩ = some (.int .u64 ((rd_T57 U5 x29_1).f1)) := (blk_cell BK179.out 1).trans rfl
                            have hfz23_0 := blk_frozen BK179.out 0
                            have hfz23_1 := blk_frozen BK179.out 1
                            try go_wp2
                            go_roundg k1
                            case measure => have := HK1.out; omega
                            case rel => exact ⟨(Int.tmod x0_1 (wrap64 ((rd_T57 U5 x29_1).f1))), (y181), (wrap64 (x29_1 + 1)), (by first | rfl | (simp; done) | (simp [*]; done)), (by first | rfl | (simp; done) | (simp [*]; done)), H', ⟨by have := HK1.out; omega⟩, ⟨by (with_reducible repeat (first | apply Kd.R_alloc | apply Kd.R_drewN | apply Kd.R_drew)); exact HO183.out⟩, ⟨by (with_reducible repeat (first | apply Kd.R_alloc | apply Kd.R_drewN | apply Kd.R_drew)); exact Kd.R_mono HO_28.out (fun _ hk => trivial)⟩, ⟨by repeat (first | (with_reducible first | exact HB.out | apply below_alloc | apply pw_below_drewN | apply below_drew1 | refine below_set ?_ GE179.out) | exact HB.out)⟩⟩
                          · rw [if_neg c15] at H
                            exact absurd H (by simp)
                        · rw [if_neg c14] at H
                          exact absurd H (by simp)
                      · rw [if_neg c12] at H
                        have c12b0 : decide (0 < (wrap64 (Int.tdiv x0_1 (wrap64 ((rd_T57 U5 x29_1).f1))))) = false := decide_eq_false c12
                        clear c12
                        have H' := Aside0.mk H
                        clear H
                        have gi0 : 0 ≤ x29_1 := of_decide_eq_true c9b0
                        have gi5 : x29_1 < 5 := of_decide_eq_true c8b0
                        have hidx := fun w' => idx5 w' x29_1 gi0 gi5
                        replace gi0 := eq_true gi0
                        replace gi5 := eq_true gi5
                        go_wp2_with (first | ((with_reducible refine gate_dst (N := 5) rfl ?_); refine box_event ?hg (N := 5) ?hd (cs := #[.string (⟨#[]⟩ : ByteArray), .int .u64 0]) (t := 57) ?hr ?_; (case hd => rfl); (case hg => rfl); (case hr => first | (go_simp; done) | (go_simp; rfl)); intro gb179 hg w25 hbox hb; have n0_ := Aside0.mk (Kd.R_below (by (with_reducible repeat (first | apply Kd.R_alloc | apply Kd.R_drewN | apply Kd.R_drew)); exact HO_3.out) hb); have n1_ := Aside0.mk (Kd.R_below (Kd.R_elderB (by (with_reducible repeat (first | apply Kd.R_alloc | apply Kd.R_drewN | apply Kd.R_drew)); exact HO_28.out) gb179 (Nat.le_of_eq hg.symm)) hb); have n2_ := Aside0.mk (below_step (by repeat (first | (with_reducible first | exact HB.out | apply below_alloc | apply pw_below_drewN | apply below_drew1) | exact HB.out)) hb); have n3_ := Aside0.mk (hbox); have n4_ := Aside0.mk ((by rw [hg]; exact (below_size (by repeat (first | (with_reducible first | exact HB.out | apply below_alloc | apply pw_below_drewN | apply below_drew1) | exact HB.out))) : w.heap.size ≤ gb179)); have n5_ := Aside0.mk ((by rw [hg]; exact (below_size (by repeat (first | (with_reducible first | exact HB.out | apply below_alloc | apply pw_below_drewN | apply below_drew1) | exact HB.out))) : w.heap.size ≤ gb179)); clear HO_3; clear HO_28; clear HB; have HO_3 := n0_; have HO_28 := n1_; have HB := n2_; have BK179 := n3_; have GW179 := n4_; have GE179 := n5_; clear n0_ n1_ n2_ n3_ n4_ n5_; clear hb hbox hg; have hcz26_0 : w25.cell? ⟨gb179, 0, none⟩ = some (.string (⟨#[]⟩ : ByteArray)) := (blk_cell BK179.out 0).trans rfl; have hcz26_1 : w25.cell? ⟨gb179, 1, none⟩ = some (.int .u64 0) := (blk_cell BK179.out 1).trans rfl; have hfz26_0 := blk_frozen BK179.out 0; have hfz26_1 := blk_frozen BK179.out 1))
                        go_roundg k1
                        case measure => have := HK1.out; omega
                        case rel => exact ⟨(Int.tmod x0_1 (wrap64 ((rd_T57 U5 x29_1).f1))), (x3_1), (wrap64 (x29_1 + 1)), (by first | rfl | (simp; done) | (simp [*]; done)), (by first | rfl | (simp; done) | (simp [*]; done)), H', ⟨by have := HK1.out; omega⟩, ⟨by (with_reducible repeat (first | apply Kd.R_alloc | apply Kd.R_drewN | apply Kd.R_drew)); exact Kd.R_mono (Kd.R_far (p := ⟨gb179, 1, none⟩) (Kd.R_far (p := ⟨gb179, 0, none⟩) (Kd.R_types HO_3.out BK179.out (by decide)) (fun _ hk => hk.2) (.string ((rd_T57 U5 x29_1).f0))) (fun _ hk => hk.2) (.int .u64 ((rd_T57 U5 x29_1).f1))) (fun _ hk => trivial)⟩, ⟨by (with_reducible repeat (first | apply Kd.R_alloc | apply Kd.R_drewN | apply Kd.R_drew)); exact Kd.R_mono (Kd.R_far (p := ⟨gb179, 1, none⟩) (Kd.R_far (p := ⟨gb179, 0, none⟩) (Kd.R_mono HO_28.out (fun k_ hk => (⟨hk, hk.2⟩ : _ ∧ k_ ≠ gb179))) (fun _ hk => hk.2) (.string ((rd_T57 U5 x29_1).f0))) (fun _ hk => hk.2) (.int .u64 ((rd_T57 U5 x29_1).f1))) (fun _ hk => trivial)⟩, ⟨by repeat (first | (with_reducible first | exact HB.out | apply below_alloc | apply pw_below_drewN | apply below_drew1 | refine below_set ?_ GE179.out) | exact HB.out)⟩⟩
                  · rw [if_neg c10] at H
                    exact absurd H (by simp)
                · rw [if_neg c9] at H
                  exact absurd H (by simp)
              · rw [if_neg c8] at H
                have c8b0 : decide (x29_1 < 5) = false := decide_eq_false c8
                clear c8
                replace H := Option.bind_eq_some_iff.mp H
                obtain ⟨t184, A270, H⟩ := H
                replace H : (some t184) = some r := H
                have A27 := Aside0.mk A270
                clear A270
                obtain rfl := Option.some.inj H
                obtain ⟨Ao28, co28, eo28⟩ := Kd.R_slice HO_3.out
                subst eo28
                go_wp2_with (first | ((with_reducible refine gate_callee (f := 26) rfl ?_); refine goesL_ (some 54) rfl rfl Tryd.func26 (by kernel_rfl) rfl #[.slice Ao28 x3_1.length co28, .string (⟨#[32]⟩ : ByteArray)] rfl (by (try simp only [List.map_toArray, List.map_cons, List.map_nil]); first | done | rfl | (simp only [List.length_drop, List.length_take]; rfl)) ?_; (with_reducible refine (strings_Join.calls _ _ x3_1 (⟨#[32]⟩ : ByteArray) t184 _ ?side1 ?side2 A27.out).mono ?_); (case side1 => repeat (first | exact (Kd.R_reads' HO_3.out).2.2 | (with_reducible refine Kd.C_alloc ?_ _) | (with_reducible refine Kd.C_drewN ?_ _) | (with_reducible refine Kd.C_drew ?_))); (case side2 => exact (Kd.R_reads' HO_3.out).2.1); rintro e w29 ⟨rfl, hb⟩; refine ⟨_, rfl, ?_⟩; have n0_ := Aside0.mk (Kd.R_below (by (with_reducible repeat (first | apply Kd.R_alloc | apply Kd.R_drewN | apply Kd.R_drew)); exact HO_3.out) hb); have n1_ := Aside0.mk (Kd.R_below (by (with_reducible repeat (first | apply Kd.R_alloc | apply Kd.R_drewN | apply Kd.R_drew)); exact HO_28.out) hb); have n2_ := Aside0.mk (below_step (by repeat (first | (with_reducible first | exact HB.out | apply below_alloc | apply pw_below_drewN | apply below_drew1) | exact HB.out)) hb); clear HO_3; clear HO_28; clear HB; have HO_3 := n0_; have HO_28 := n1_; have HB := n2_; clear n0_ n1_ n2_; (try clear hb); (try clear hb2); (try clear hk); (try clear hi)))
                go_ret
                exact ⟨by first | rfl | (simp [errW_none, errW_some] <;> rfl) | (simp [*, errW_none, errW_some] <;> rfl), by repeat (first | (with_reducible first | exact HB.out | apply below_alloc | apply pw_below_drewN | apply below_drew1) | exact HB.out)⟩


end Go.Proofs.YtfpfdeechhaheaaDoor.Reads
