/- Out of the program's functions that the law reaches, part 2: what each computes, and that the machine computes it. -/
import Derived.Test.YtaihipdebmcmhaaDoorLinesM
namespace Go.Proofs.YtaihipdebmcmhaaDoor.Lines
open Go.RowKit Go.Proofs.YtaihipdebmcmhaaDoorW.PrintWords Go.Proofs.YtaihipdebmcmhaaDoorW.PrintLast
set_option linter.unusedVariables false
set_option linter.unusedSimpArgs false
/-! ### reveillelaw5_LineLong: function 4 -/
mutual
def reveillelaw5_LineLong.l0 : Nat → Int → ByteArray → Int → Int → Int → Option (Bool)
  | 0, _, _, _, _, _ => none
  | k + 1, x0, x5, x6, x7, x8 => if x8 < x7 then (reveillelaw5_LineLong.l1 k x0 x5 x6 x7 x8 0) else (if x5.size + 1 ≤ 9223372036854775807 then ((line_Lines.f k (x5 ++ (⟨#[10]⟩ : ByteArray))).bind fun bt156 => (if x6 > 400 then (if bt156.2.2 = 51 then (some (bt156.2.1 == 2)) else (some false)) else (some (bt156.2.2 == 0)))) else (none))
def reveillelaw5_LineLong.l1 : Nat → Int → ByteArray → Int → Int → Int → Int → Option (Bool)
  | 0, _, _, _, _, _, _ => none
  | k + 1, x0, x5, x6, x7, x8, x9 => if x7 = 0 then (none) else (if x9 < (wrap64 (Int.tdiv (wrap64 (x0)) x7)) then (if x5.size + 1 ≤ 9223372036854775807 then (reveillelaw5_LineLong.l1 k x0 (x5 ++ (⟨#[118]⟩ : ByteArray)) (wrap64 (x6 + 1)) x7 x8 (wrap64 (x9 + 1))) else (none)) else (if (wrap64 (x8 + 1)) < x7 then (if x5.size + 2 ≤ 9223372036854775807 then (reveillelaw5_LineLong.l0 k x0 (x5 ++ (⟨#[92, 10]⟩ : ByteArray)) (wrap64 (x6 + 1)) x7 (wrap64 (x8 + 1))) else (none)) else (reveillelaw5_LineLong.l0 k x0 x5 x6 x7 (wrap64 (x8 + 1)))))
end
def reveillelaw5_LineLong.f (k : Nat) (a0 : Int) (a1 : Int) : Option (Bool) := (reveillelaw5_known.f).bind fun t155 => (if t155 = true then (if a0 > 600 then (some true) else (reveillelaw5_LineLong.l0 k a0 (⟨#[91, 65, 93, 10, 107, 61]⟩ : ByteArray) 2 (wrap64 ((wrap64 (Int.tmod a1 5)) + 1)) 0)) else (some false))
theorem reveillelaw5_LineLong.mono_l : ∀ k, (∀ y0 y1 y2 y3 y4, LeO (reveillelaw5_LineLong.l0 k y0 y1 y2 y3 y4) (reveillelaw5_LineLong.l0 (k + 1) y0 y1 y2 y3 y4)) ∧ (∀ y0 y1 y2 y3 y4 y5, LeO (reveillelaw5_LineLong.l1 k y0 y1 y2 y3 y4 y5) (reveillelaw5_LineLong.l1 (k + 1) y0 y1 y2 y3 y4 y5))
  | 0 => ⟨fun _ _ _ _ _ r h => by simp [reveillelaw5_LineLong.l0] at h, fun _ _ _ _ _ _ r h => by simp [reveillelaw5_LineLong.l1] at h⟩
  | k + 1 => by
    obtain ⟨ih0, ih1⟩ := reveillelaw5_LineLong.mono_l k
    refine ⟨?_, ?_⟩
    · intro y0 y1 y2 y3 y4
      unfold reveillelaw5_LineLong.l0
      repeat' first
      | (with_reducible exact ih0 _ _ _ _ _)
      | (with_reducible exact ih1 _ _ _ _ _ _)
      | (with_reducible exact line_Lines.mono _ _)
      | (with_reducible exact LeO.refl _)
      | (with_reducible exact LeO.none _)
      | (with_reducible refine LeO.ite ?_ ?_)
      | (with_reducible refine LeO.bind ?_ (fun _ => ?_))
      | exact ih0 _ _ _ _ _
      | exact ih1 _ _ _ _ _ _
      | exact line_Lines.mono _ _
      | exact LeO.none _
      | refine LeO.ite ?_ ?_
      | refine LeO.bind ?_ (fun _ => ?_)
    · intro y0 y1 y2 y3 y4 y5
      unfold reveillelaw5_LineLong.l1
      repeat' first
      | (with_reducible exact ih0 _ _ _ _ _)
      | (with_reducible exact ih1 _ _ _ _ _ _)
      | (with_reducible exact line_Lines.mono _ _)
      | (with_reducible exact LeO.refl _)
      | (with_reducible exact LeO.none _)
      | (with_reducible refine LeO.ite ?_ ?_)
      | (with_reducible refine LeO.bind ?_ (fun _ => ?_))
      | exact ih0 _ _ _ _ _
      | exact ih1 _ _ _ _ _ _
      | exact line_Lines.mono _ _
      | exact LeO.none _
      | refine LeO.ite ?_ ?_
      | refine LeO.bind ?_ (fun _ => ?_)
theorem reveillelaw5_LineLong.mono : ∀ a0 a1 k, LeO (reveillelaw5_LineLong.f k a0 a1) (reveillelaw5_LineLong.f (k + 1) a0 a1) := by
  intro a0 a1 k
  obtain ⟨ih0, ih1⟩ := reveillelaw5_LineLong.mono_l k
  unfold reveillelaw5_LineLong.f
  repeat' first
      | (with_reducible exact ih0 _ _ _ _ _)
      | (with_reducible exact ih1 _ _ _ _ _ _)
      | (with_reducible exact line_Lines.mono _ _)
      | (with_reducible exact LeO.refl _)
      | (with_reducible exact LeO.none _)
      | (with_reducible refine LeO.ite ?_ ?_)
      | (with_reducible refine LeO.bind ?_ (fun _ => ?_))
      | exact ih0 _ _ _ _ _
      | exact ih1 _ _ _ _ _ _
      | exact line_Lines.mono _ _
      | exact LeO.none _
      | refine LeO.ite ?_ ?_
      | refine LeO.bind ?_ (fun _ => ?_)
set_option maxHeartbeats 8000000 in
set_option maxRecDepth 100000 in
theorem reveillelaw5_LineLong.calls (k : Nat) (a0 : Int) (a1 : Int) (r : Bool) (w : World) (h : reveillelaw5_LineLong.f k a0 a1 = some r) (hG : GW w) :
    Calls Tryd.prog 4 #[.int .u16 a0, .int .u8 a1] w fun e w' => e = .returned (.bool r) ∧ Below w.heap.size w w' := by
  have HG := Aside0.mk hG
  clear hG
  have HB := Aside0.mk (Below.refl w.heap.size w)
  have H : ((reveillelaw5_known.f).bind fun t155 => (if t155 = true then (if a0 > 600 then (some true) else (reveillelaw5_LineLong.l0 k a0 (⟨#[91, 65, 93, 10, 107, 61]⟩ : ByteArray) 2 (wrap64 ((wrap64 (Int.tmod a1 5)) + 1)) 0)) else (some false))) = some r := h
  clear h
  replace H := Option.bind_eq_some_iff.mp H
  obtain ⟨t155, A30, H⟩ := H
  replace H : (if t155 = true then (if a0 > 600 then (some true) else (reveillelaw5_LineLong.l0 k a0 (⟨#[91, 65, 93, 10, 107, 61]⟩ : ByteArray) 2 (wrap64 ((wrap64 (Int.tmod a1 5)) + 1)) 0)) else (some false)) = some r := H
  have A3 := Aside0.mk A30
  clear A30
  by_cases c4 : t155 = true
  · subst c4
    have H1 : (if a0 > 600 then (some true) else (reveillelaw5_LineLong.l0 k a0 (⟨#[91, 65, 93, 10, 107, 61]⟩ : ByteArray) 2 (wrap64 ((wrap64 (Int.tmod a1 5)) + 1)) 0)) = some r := by rw [if_pos rfl] at H; exact H
    clear H
    have H := H1
    clear H1
    by_cases c5 : a0 > 600
    · rw [if_pos c5] at H
      have c5b0 : decide (600 < a0) = true := decide_eq_true c5
      clear c5
      obtain rfl := Option.some.inj H
      go_enter Tryd.func4, Tryd.ntmps4
      go_wp2_with (first | ((with_reducible refine gate_callee (f := 9) rfl ?_); refine goesL_ (some 13) rfl rfl Tryd.func9 (by kernel_rfl) rfl #[] rfl (by (try simp only [List.map_toArray, List.map_cons, List.map_nil]); first | done | rfl | (simp only [List.length_drop, List.length_take]; rfl)) ?_; (with_reducible refine (reveillelaw5_known.calls  true _ A3.out (GW.below HG.out (by repeat (first | (with_reducible first | exact HB.out | apply below_alloc | apply pw_below_drewN | apply below_drew1) | exact HB.out)))).mono ?_); rintro e w6 ⟨rfl, hb⟩; refine ⟨_, rfl, ?_⟩; have n0_ := Aside0.mk (below_step (by repeat (first | (with_reducible first | exact HB.out | apply below_alloc | apply pw_below_drewN | apply below_drew1) | exact HB.out)) hb); clear HB; have HB := n0_; clear n0_; (try clear hb); (try clear hb2); (try clear hk); (try clear hi)))
      go_ret
      exact ⟨by first | rfl | (simp [errW_none, errW_some] <;> rfl) | (simp [*, errW_none, errW_some] <;> rfl), by repeat (first | (with_reducible first | exact HB.out | apply below_alloc | apply pw_below_drewN | apply below_drew1) | exact HB.out)⟩
    · rw [if_neg c5] at H
      have c5b0 : decide (600 < a0) = false := decide_eq_false c5
      clear c5
      have H' := Aside0.mk H
      clear H
      go_enter Tryd.func4, Tryd.ntmps4
      go_wp2_with (first | ((with_reducible refine gate_callee (f := 9) rfl ?_); refine goesL_ (some 13) rfl rfl Tryd.func9 (by kernel_rfl) rfl #[] rfl (by (try simp only [List.map_toArray, List.map_cons, List.map_nil]); first | done | rfl | (simp only [List.length_drop, List.length_take]; rfl)) ?_; (with_reducible refine (reveillelaw5_known.calls  true _ A3.out (GW.below HG.out (by repeat (first | (with_reducible first | exact HB.out | apply below_alloc | apply pw_below_drewN | apply below_drew1) | exact HB.out)))).mono ?_); rintro e w7 ⟨rfl, hb⟩; refine ⟨_, rfl, ?_⟩; have n0_ := Aside0.mk (below_step (by repeat (first | (with_reducible first | exact HB.out | apply below_alloc | apply pw_below_drewN | apply below_drew1) | exact HB.out)) hb); clear HB; have HB := n0_; clear n0_; (try clear hb); (try clear hb2); (try clear hk); (try clear hi)))
      go_loopg [5, 6, 8] k (fun kq v5 v6 v8 w' => ∃ (x5_1 : ByteArray) (x6_1 : Int) (x8_1 : Int), v5 = .string x5_1 ∧ v6 = .int .i64 x6_1 ∧ v8 = .int .i64 x8_1 ∧ Aside0 (reveillelaw5_LineLong.l0 kq a0 x5_1 x6_1 (wrap64 ((wrap64 (Int.tmod a1 5)) + 1)) x8_1 = some r) ∧ Aside0 (kq ≤ k) ∧ Aside0 (Below w.heap.size w w'))
      case atStart => exact ⟨((⟨#[91, 65, 93, 10, 107, 61]⟩ : ByteArray)), (2), (0), (by first | rfl | (simp; done) | (simp [*]; done)), (by first | rfl | (simp; done) | (simp [*]; done)), (by first | rfl | (simp; done) | (simp [*]; done)), H', ⟨Nat.le_refl _⟩, ⟨by repeat (first | (with_reducible first | exact HB.out | apply below_alloc | apply pw_below_drewN | apply below_drew1) | exact HB.out)⟩⟩
      case round =>
        clear H'
        try clear p2
        try clear c4
        try clear c5
        try clear c5b0
        try clear p6
        obtain ⟨x5_1, x6_1, x8_1, rfl, rfl, rfl, HA, HK1, HB⟩ := hrel
        cases gk with
        | zero => exact absurd HA.out (by simp [reveillelaw5_LineLong.l0])
        | succ k1 =>
          have H := HA.out
          clear HA
          simp only [reveillelaw5_LineLong.l0] at H
          by_cases c8 : x8_1 < (wrap64 ((wrap64 (Int.tmod a1 5)) + 1))
          · rw [if_pos c8] at H
            have c8b0 : decide (x8_1 < (wrap64 ((wrap64 (Int.tmod a1 5)) + 1))) = true := decide_eq_true c8
            clear c8
            have H' := Aside0.mk H
            clear H
            go_wp2
            go_loopg [5, 6, 9] k1 (fun kq v5 v6 v9 w' => ∃ (x5_2 : ByteArray) (x6_2 : Int) (x9_2 : Int), v5 = .string x5_2 ∧ v6 = .int .i64 x6_2 ∧ v9 = .int .i64 x9_2 ∧ Aside0 (reveillelaw5_LineLong.l1 kq a0 x5_2 x6_2 (wrap64 ((wrap64 (Int.tmod a1 5)) + 1)) x8_1 x9_2 = some r) ∧ Aside0 (kq ≤ k1) ∧ Aside0 (Below w.heap.size w w'))
            case atStart => exact ⟨(x5_1), (x6_1), (0), (by first | rfl | (simp; done) | (simp [*]; done)), (by first | rfl | (simp; done) | (simp [*]; done)), (by first | rfl | (simp; done) | (simp [*]; done)), H', ⟨Nat.le_refl _⟩, ⟨by repeat (first | (with_reducible first | exact HB.out | apply below_alloc | apply pw_below_drewN | apply below_drew1) | exact HB.out)⟩⟩
            case round =>
              clear H'
              try clear p2
              try clear c4
              try clear c5
              try clear c5b0
              try clear p6
              try clear c8
              try clear c8b0
              try clear p2
              try clear p6
              obtain ⟨x5_2, x6_2, x9_2, rfl, rfl, rfl, HA, HK2, HB⟩ := hrel
              cases gk with
              | zero => exact absurd HA.out (by simp [reveillelaw5_LineLong.l1])
              | succ k2 =>
                have H := HA.out
                clear HA
                simp only [reveillelaw5_LineLong.l1] at H
                by_cases c9 : (wrap64 ((wrap64 (Int.tmod a1 5)) + 1)) = 0
                · rw [if_pos c9] at H
                  exact absurd H (by simp)
                · rw [if_neg c9] at H
                  have c9b0 : ((wrap64 ((wrap64 (Int.tmod a1 5)) + 1)) == 0) = false := beq_eq_false_iff_ne.mpr c9
                  have c9b1 : ((wrap64 ((wrap64 (Int.tmod a1 5)) + 1)) != 0) = true := bne_iff_ne.mpr c9
                  by_cases c10 : x9_2 < (wrap64 (Int.tdiv (wrap64 (a0)) (wrap64 ((wrap64 (Int.tmod a1 5)) + 1))))
                  · rw [if_pos c10] at H
                    have c10b0 : decide (x9_2 < (wrap64 (Int.tdiv (wrap64 (a0)) (wrap64 ((wrap64 (Int.tmod a1 5)) + 1))))) = true := decide_eq_true c10
                    clear c10
                    by_cases c11 : x5_2.size + 1 ≤ 9223372036854775807
                    · rw [if_pos c11] at H
                      have c11b0 := eq_true c11
                      have c11b1 : decide (x5_2.size + 1 ≤ 9223372036854775807) = true := decide_eq_true c11
                      try have c11b2 : (9223372036854775807 < x5_2.size + 1) = False := eq_false (Nat.not_lt.2 c11)
                      have H' := Aside0.mk H
                      clear H
                      go_wp2
                      go_roundg k2
                      case measure => have := HK1.out; have := HK2.out; omega
                      case rel => exact ⟨(x5_2 ++ (⟨#[118]⟩ : ByteArray)), (wrap64 (x6_2 + 1)), (wrap64 (x9_2 + 1)), (by first | rfl | (simp; done) | (simp [*]; done)), (by first | rfl | (simp; done) | (simp [*]; done)), (by first | rfl | (simp; done) | (simp [*]; done)), H', ⟨by have := HK1.out; have := HK2.out; omega⟩, ⟨by repeat (first | (with_reducible first | exact HB.out | apply below_alloc | apply pw_below_drewN | apply below_drew1) | exact HB.out)⟩⟩
                    · rw [if_neg c11] at H
                      exact absurd H (by simp)
                  · rw [if_neg c10] at H
                    have c10b0 : decide (x9_2 < (wrap64 (Int.tdiv (wrap64 (a0)) (wrap64 ((wrap64 (Int.tmod a1 5)) + 1))))) = false := decide_eq_false c10
                    clear c10
                    by_cases c12 : (wrap64 (x8_1 + 1)) < (wrap64 ((wrap64 (Int.tmod a1 5)) + 1))
                    · rw [if_pos c12] at H
                      have c12b0 : decide ((wrap64 (x8_1 + 1)) < (wrap64 ((wrap64 (Int.tmod a1 5)) + 1))) = true := decide_eq_true c12
                      clear c12
                      by_cases c13 : x5_2.size + 2 ≤ 9223372036854775807
                      · rw [if_pos c13] at H
                        have c13b0 := eq_true c13
                        have c13b1 : decide (x5_2.size + 2 ≤ 9223372036854775807) = true := decide_eq_true c13
                        try have c13b2 : (9223372036854775807 < x5_2.size + 2) = False := eq_false (Nat.not_lt.2 c13)
                        have H' := Aside0.mk H
                        clear H
                        go_wp2
                        go_roundg k2
                        case measure => have := HK1.out; have := HK2.out; omega
                        case rel => exact ⟨(x5_2 ++ (⟨#[92, 10]⟩ : ByteArray)), (wrap64 (x6_2 + 1)), (wrap64 (x8_1 + 1)), (by first | rfl | (simp; done) | (simp [*]; done)), (by first | rfl | (simp; done) | (simp [*]; done)), (by first | rfl | (simp; done) | (simp [*]; done)), H', ⟨by have := HK1.out; have := HK2.out; omega⟩, ⟨by repeat (first | (with_reducible first | exact HB.out | apply below_alloc | apply pw_below_drewN | apply below_drew1) | exact HB.out)⟩⟩
                      · rw [if_neg c13] at H
                        exact absurd H (by simp)
                    · rw [if_neg c12] at H
                      have c12b0 : decide ((wrap64 (x8_1 + 1)) < (wrap64 ((wrap64 (Int.tmod a1 5)) + 1))) = false := decide_eq_false c12
                      clear c12
                      have H' := Aside0.mk H
                      clear H
                      go_wp2
                      go_roundg k2
                      case measure => have := HK1.out; have := HK2.out; omega
                      case rel => exact ⟨(x5_2), (x6_2), (wrap64 (x8_1 + 1)), (by first | rfl | (simp; done) | (simp [*]; done)), (by first | rfl | (simp; done) | (simp [*]; done)), (by first | rfl | (simp; done) | (simp [*]; done)), H', ⟨by have := HK1.out; have := HK2.out; omega⟩, ⟨by repeat (first | (with_reducible first | exact HB.out | apply below_alloc | apply pw_below_drewN | apply below_drew1) | exact HB.out)⟩⟩
          · rw [if_neg c8] at H
            have c8b0 : decide (x8_1 < (wrap64 ((wrap64 (Int.tmod a1 5)) + 1))) = false := decide_eq_false c8
            clear c8
            by_cases c14 : x5_1.size + 1 ≤ 9223372036854775807
            · rw [if_pos c14] at H
              have c14b0 := eq_true c14
              have c14b1 : decide (x5_1.size + 1 ≤ 9223372036854775807) = true := decide_eq_true c14
              try have c14b2 : (9223372036854775807 < x5_1.size + 1) = False := eq_false (Nat.not_lt.2 c14)
              replace H := Option.bind_eq_some_iff.mp H
              obtain ⟨⟨t156, t157, t158⟩, A150, H⟩ := H
              replace H : (if x6_1 > 400 then (if t158 = 51 then (some (t157 == 2)) else (some false)) else (some (t158 == 0))) = some r := H
              have A15 := Aside0.mk A150
              clear A150
              by_cases c16 : x6_1 > 400
              · rw [if_pos c16] at H
                have c16b0 : decide (400 < x6_1) = true := decide_eq_true c16
                clear c16
                by_cases c17 : t158 = 51
                · rw [if_pos c17] at H
                  have c17b0 : (t158 == 51) = true := beq_iff_eq.mpr c17
                  have c17b1 : (t158 != 51) = false := bne_eq_false_iff_eq.mpr c17
                  clear c17
                  obtain rfl := Option.some.inj H
                  go_wp2_with (first | ((with_reducible refine gate_callee (f := 11) rfl ?_); refine goesL_ (some 49) rfl rfl Tryd.func11 (by kernel_rfl) rfl #[.string (x5_1 ++ (⟨#[10]⟩ : ByteArray))] rfl (by (try simp only [List.map_toArray, List.map_cons, List.map_nil]); first | done | rfl | (simp only [List.length_drop, List.length_take]; rfl)) ?_; (with_reducible refine (line_Lines.calls k1 (x5_1 ++ (⟨#[10]⟩ : ByteArray)) t156 t157 t158 _ A15.out (GW.below HG.out (by repeat (first | (with_reducible first | exact HB.out | apply below_alloc | apply pw_below_drewN | apply below_drew1) | exact HB.out)))).mono ?_); rintro e w18 ⟨v159, rfl, ho0, hb⟩; refine ⟨_, rfl, ?_⟩; have n0_ := Aside0.mk (Kd.R_lower ho0 (below_size (by repeat (first | (with_reducible first | exact HB.out | apply below_alloc | apply pw_below_drewN | apply below_drew1) | exact HB.out)))); have n1_ := Aside0.mk (below_step (by repeat (first | (with_reducible first | exact HB.out | apply below_alloc | apply pw_below_drewN | apply below_drew1) | exact HB.out)) hb); clear HB; have HO160 := n0_; have HB := n1_; clear n0_ n1_; (try clear hb); (try clear hb2); (try clear hk); (try clear hi); (try clear ho0)))
                  go_ret
                  exact ⟨by first | rfl | (simp [errW_none, errW_some] <;> rfl) | (simp [*, errW_none, errW_some] <;> rfl), by repeat (first | (with_reducible first | exact HB.out | apply below_alloc | apply pw_below_drewN | apply below_drew1) | exact HB.out)⟩
                · rw [if_neg c17] at H
                  have c17b0 : (t158 == 51) = false := beq_eq_false_iff_ne.mpr c17
                  have c17b1 : (t158 != 51) = true := bne_iff_ne.mpr c17
                  obtain rfl := Option.some.inj H
                  go_wp2_with (first | ((with_reducible refine gate_callee (f := 11) rfl ?_); refine goesL_ (some 49) rfl rfl Tryd.func11 (by kernel_rfl) rfl #[.string (x5_1 ++ (⟨#[10]⟩ : ByteArray))] rfl (by (try simp only [List.map_toArray, List.map_cons, List.map_nil]); first | done | rfl | (simp only [List.length_drop, List.length_take]; rfl)) ?_; (with_reducible refine (line_Lines.calls k1 (x5_1 ++ (⟨#[10]⟩ : ByteArray)) t156 t157 t158 _ A15.out (GW.below HG.out (by repeat (first | (with_reducible first | exact HB.out | apply below_alloc | apply pw_below_drewN | apply below_drew1) | exact HB.out)))).mono ?_); rintro e w19 ⟨v159, rfl, ho0, hb⟩; refine ⟨_, rfl, ?_⟩; have n0_ := Aside0.mk (Kd.R_lower ho0 (below_size (by repeat (first | (with_reducible first | exact HB.out | apply below_alloc | apply pw_below_drewN | apply below_drew1) | exact HB.out)))); have n1_ := Aside0.mk (below_step (by repeat (first | (with_reducible first | exact HB.out | apply below_alloc | apply pw_below_drewN | apply below_drew1) | exact HB.out)) hb); clear HB; have HO160 := n0_; have HB := n1_; clear n0_ n1_; (try clear hb); (try clear hb2); (try clear hk); (try clear hi); (try clear ho0)))
                  go_ret
                  exact ⟨by first | rfl | (simp [errW_none, errW_some] <;> rfl) | (simp [*, errW_none, errW_some] <;> rfl), by repeat (first | (with_reducible first | exact HB.out | apply below_alloc | apply pw_below_drewN | apply below_drew1) | exact HB.out)⟩
              · rw [if_neg c16] at H
                have c16b0 : decide (400 < x6_1) = false := decide_eq_false c16
                clear c16
                obtain rfl := Option.some.inj H
                go_wp2_with (first | ((with_reducible refine gate_callee (f := 11) rfl ?_); refine goesL_ (some 49) rfl rfl Tryd.func11 (by kernel_rfl) rfl #[.string (x5_1 ++ (⟨#[10]⟩ : ByteArray))] rfl (by (try simp only [List.map_toArray, List.map_cons, List.map_nil]); first | done | rfl | (simp only [List.length_drop, List.length_take]; rfl)) ?_; (with_reducible refine (line_Lines.calls k1 (x5_1 ++ (⟨#[10]⟩ : ByteArray)) t156 t157 t158 _ A15.out (GW.below HG.out (by repeat (first | (with_reducible first | exact HB.out | apply below_alloc | apply pw_below_drewN | apply below_drew1) | exact HB.out)))).mono ?_); rintro e w20 ⟨v159, rfl, ho0, hb⟩; refine ⟨_, rfl, ?_⟩; have n0_ := Aside0.mk (Kd.R_lower ho0 (below_size (by repeat (first | (with_reducible first | exact HB.out | apply below_alloc | apply pw_below_drewN | apply below_drew1) | exact HB.out)))); have n1_ := Aside0.mk (below_step (by repeat (first | (with_reducible first | exact HB.out | apply below_alloc | apply pw_below_drewN | apply below_drew1) | exact HB.out)) hb); clear HB; have HO160 := n0_; have HB := n1_; clear n0_ n1_; (try clear hb); (try clear hb2); (try clear hk); (try clear hi); (try clear ho0)))
                go_ret
                exact ⟨by first | rfl | (simp [errW_none, errW_some] <;> rfl) | (simp [*, errW_none, errW_some] <;> rfl), by repeat (first | (with_reducible first | exact HB.out | apply below_alloc | apply pw_below_drewN | apply below_drew1) | exact HB.out)⟩
            · rw [if_neg c14] at H
              exact absurd H (by simp)
  · replace c4 := Bool.eq_false_iff.mpr c4
    subst c4
    have H1 : (some false) = some r := by rw [if_neg (show ¬ (false = true) by decide)] at H; exact H
    clear H
    have H := H1
    clear H1
    obtain rfl := Option.some.inj H
    go_enter Tryd.func4, Tryd.ntmps4
    go_wp2_with (first | ((with_reducible refine gate_callee (f := 9) rfl ?_); refine goesL_ (some 13) rfl rfl Tryd.func9 (by kernel_rfl) rfl #[] rfl (by (try simp only [List.map_toArray, List.map_cons, List.map_nil]); first | done | rfl | (simp only [List.length_drop, List.length_take]; rfl)) ?_; (with_reducible refine (reveillelaw5_known.calls  false _ A3.out (GW.below HG.out (by repeat (first | (with_reducible first | exact HB.out | apply below_alloc | apply pw_below_drewN | apply below_drew1) | exact HB.out)))).mono ?_); rintro e w21 ⟨rfl, hb⟩; refine ⟨_, rfl, ?_⟩; have n0_ := Aside0.mk (below_step (by repeat (first | (with_reducible first | exact HB.out | apply below_alloc | apply pw_below_drewN | apply below_drew1) | exact HB.out)) hb); clear HB; have HB := n0_; clear n0_; (try clear hb); (try clear hb2); (try clear hk); (try clear hi)))
    go_ret
    exact ⟨by first | rfl | (simp [errW_none, errW_some] <;> rfl) | (simp [*, errW_none, errW_some] <;> rfl), by repeat (first | (with_reducible first | exact HB.out | apply below_alloc | apply pw_below_drewN | apply below_drew1) | exact HB.out)⟩

/-- THE ONE PURE STATEMENT of reveillelaw5_LineLong: yours. -/
def reveillelaw5_LineLong.Pure : Prop := ∀ (a0 : Int) (a1 : Int), (Lit.int .u16 a0).wf = true → (Lit.int .u8 a1).wf = true → ∃ k, reveillelaw5_LineLong.f k a0 a1 = some true
theorem reveillelaw5_LineLong.walk (P : reveillelaw5_LineLong.Pure) (a0 : Int) (a1 : Int) (w : World) (w0 : (Lit.int .u16 a0).wf = true) (w1 : (Lit.int .u8 a1).wf = true) (hG : GW w) :
    Calls Tryd.prog 4 #[.int .u16 a0, .int .u8 a1] w fun e w' => e = .returned (.bool true) ∧ Below w.heap.size w w' := by
  obtain ⟨k, h⟩ := P a0 a1 w0 w1
  refine (reveillelaw5_LineLong.calls k a0 a1 true w h hG).mono ?_
  rintro e w' ⟨rfl, hd⟩
  exact ⟨rfl, hd⟩


end Go.Proofs.YtaihipdebmcmhaaDoor.Lines
