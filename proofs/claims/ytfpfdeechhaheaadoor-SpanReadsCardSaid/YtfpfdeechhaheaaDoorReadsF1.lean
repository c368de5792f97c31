/- Out of the program's functions that the law reaches, part 1: what each computes, and that the machine computes it. -/
import Derived.Test.YtfpfdeechhaheaaDoorReadsF0
namespace Go.Proofs.YtfpfdeechhaheaaDoor.Reads
open Go.RowKit Go.Proofs.YtfpfdeechhaheaaDoorW.PrintWords Go.Proofs.YtfpfdeechhaheaaDoorW.PrintLast Go.Proofs.YtfpfdeechhaheaaDoorW.PrintMore
attribute [local go_sem] max2_int min2_int max_two min_two max_three min_three max_four min_four
set_option linter.unusedVariables false
set_option linter.unusedSimpArgs false
mutual
def span_Parse.l0 : Nat → ByteArray → Int → Bool → Option (Int × Int)
  | 0, _, _, _ => none
  | k + 1, x0, x4, x5 => if x5 = true then (span_Parse.j1 k x0 x4 true) else (span_Parse.j1 k x0 x4 (x0.toList != ([] : List UInt8)))
def span_Parse.j1 : Nat → ByteArray → Int → Bool → Option (Int × Int)
  | 0, _, _, _ => none
  | k + 1, x0, x4, x17 => if x17 = true then ((span_part.f k x0).bind fun bt165 => (if bt165.2.2 = true then ((span_Add.f k x4 bt165.1).bind fun t168 => (span_Parse.l0 k bt165.2.1 t168 false)) else (some (0, 10)))) else (some (x4, 0))
end
def span_Parse.f (k : Nat) (a0 : ByteArray) : Option (Int × Int) := if a0.toList = ([105, 110, 102, 105, 110, 105, 116, 121] : List UInt8) then (some (9223372036854775807, 0)) else ((strings_TrimLeft.f a0 (⟨#[32]⟩ : ByteArray)).bind fun t164 => (span_Parse.l0 k t164 0 true))
theorem span_Parse.mono_l : ∀ k, (∀ y0 y1 y2, LeO (span_Parse.l0 k y0 y1 y2) (span_Parse.l0 (k + 1) y0 y1 y2)) ∧ (∀ y0 y1 y2, LeO (span_Parse.j1 k y0 y1 y2) (span_Parse.j1 (k + 1) y0 y1 y2))
  | 0 => ⟨fun _ _ _ r h => by simp [span_Parse.l0] at h, fun _ _ _ r h => by simp [span_Parse.j1] at h⟩
  | k + 1 => by
    obtain ⟨ih0, ih1⟩ := span_Parse.mono_l k
    refine ⟨?_, ?_⟩
    · intro y0 y1 y2
      unfold span_Parse.l0
      repeat' first
      | (with_reducible exact ih0 _ _ _)
      | (with_reducible exact ih1 _ _ _)
      | (with_reducible exact span_Add.mono _ _ _)
      | (with_reducible exact span_part.mono _ _)
      | (with_reducible exact LeO.refl _)
      | (with_reducible exact LeO.none _)
      | (with_reducible refine LeO.ite ?_ ?_)
      | (with_reducible refine LeO.bind ?_ (fun _ => ?_))
      | exact ih0 _ _ _
      | exact ih1 _ _ _
      | exact span_Add.mono _ _ _
      | exact span_part.mono _ _
      | exact LeO.none _
      | refine LeO.ite ?_ ?_
      | refine LeO.bind ?_ (fun _ => ?_)
    · intro y0 y1 y2
      unfold span_Parse.j1
      repeat' first
      | (with_reducible exact ih0 _ _ _)
      | (with_reducible exact ih1 _ _ _)
      | (with_reducible exact span_Add.mono _ _ _)
      | (with_reducible exact span_part.mono _ _)
      | (with_reducible exact LeO.refl _)
      | (with_reducible exact LeO.none _)
      | (with_reducible refine LeO.ite ?_ ?_)
      | (with_reducible refine LeO.bind ?_ (fun _ => ?_))
      | exact ih0 _ _ _
      | exact ih1 _ _ _
      | exact span_Add.mono _ _ _
      | exact span_part.mono _ _
      | exact LeO.none _
      | refine LeO.ite ?_ ?_
      | refine LeO.bind ?_ (fun _ => ?_)
theorem span_Parse.mono : ∀ a0 k, LeO (span_Parse.f k a0) (span_Parse.f (k + 1) a0) := by
  intro a0 k
  obtain ⟨ih0, ih1⟩ := span_Parse.mono_l k
  unfold span_Parse.f
  repeat' first
      | (with_reducible exact ih0 _ _ _)
      | (with_reducible exact ih1 _ _ _)
      | (with_reducible exact span_Add.mono _ _ _)
      | (with_reducible exact span_part.mono _ _)
      | (with_reducible exact LeO.refl _)
      | (with_reducible exact LeO.none _)
      | (with_reducible refine LeO.ite ?_ ?_)
      | (with_reducible refine LeO.bind ?_ (fun _ => ?_))
      | exact ih0 _ _ _
      | exact ih1 _ _ _
      | exact span_Add.mono _ _ _
      | exact span_part.mono _ _
      | exact LeO.none _
      | refine LeO.ite ?_ ?_
      | refine LeO.bind ?_ (fun _ => ?_)
set_option maxHeartbeats 8000000 in
set_option maxRecDepth 100000 in
theorem span_Parse.calls (k : Nat) (a0 : ByteArray) (r1 : Int) (r2 : Int) (w : World) (h : span_Parse.f k a0 = some (r1, r2)) :
    Calls Tryd.prog 9 #[.string a0] w fun e w' => e = .returned (.tuple #[.int .i64 r1, .int .i64 r2]) ∧ Below w.heap.size w w' := by
  have HB := Aside0.mk (Below.refl w.heap.size w)
  have H : (if a0.toList = ([105, 110, 102, 105, 110, 105, 116, 121] : List UInt8) then (some (9223372036854775807, 0)) else ((strings_TrimLeft.f a0 (⟨#[32]⟩ : ByteArray)).bind fun t164 => (span_Parse.l0 k t164 0 true))) = some (r1, r2) := h
  clear h
  by_cases c2 : a0.toList = ([105, 110, 102, 105, 110, 105, 116, 121] : List UInt8)
  · rw [if_pos c2] at H
    have c2b0 : (a0.toList == ([105, 110, 102, 105, 110, 105, 116, 121] : List UInt8)) = true := beq_iff_eq.mpr c2
    have c2b1 : (a0.toList != ([105, 110, 102, 105, 110, 105, 116, 121] : List UInt8)) = false := bne_eq_false_iff_eq.mpr c2
    clear c2
    simp only [Option.some.injEq, Prod.mk.injEq] at H
    obtain ⟨rfl, rfl⟩ := H
    go_enter Tryd.func9, Tryd.ntmps9
    go_wp2
    go_ret2
    exact ⟨by first | rfl | (simp [errW_none, errW_some] <;> rfl) | (simp [*, errW_none, errW_some] <;> rfl), by repeat (first | (with_reducible first | exact HB.out | apply below_alloc | apply pw_below_drewN | apply below_drew1) | exact HB.out)⟩
  · rw [if_neg c2] at H
    have c2b0 : (a0.toList == ([105, 110, 102, 105, 110, 105, 116, 121] : List UInt8)) = false := beq_eq_false_iff_ne.mpr c2
    have c2b1 : (a0.toList != ([105, 110, 102, 105, 110, 105, 116, 121] : List UInt8)) = true := bne_iff_ne.mpr c2
    replace H := Option.bind_eq_some_iff.mp H
    obtain ⟨t164, A30, H⟩ := H
    replace H : (span_Parse.l0 k t164 0 true) = some (r1, r2) := H
    have A3 := Aside0.mk A30
    clear A30
    have H' := Aside0.mk H
    clear H
    go_enter Tryd.func9, Tryd.ntmps9
    go_wp2_with (first | ((with_reducible refine gate_callee (f := 17) rfl ?_); refine goesL_ (some 12) rfl rfl Tryd.func17 (by kernel_rfl) rfl #[.string a0, .string (⟨#[32]⟩ : ByteArray)] rfl (by (try simp only [List.map_toArray, List.map_cons, List.map_nil]); first | done | rfl | (simp only [List.length_drop, List.length_take]; rfl)) ?_; (with_reducible refine (strings_TrimLeft.calls a0 (⟨#[32]⟩ : ByteArray) t164 _ A3.out).mono ?_); rintro e w4 ⟨rfl, hb⟩; refine ⟨_, rfl, ?_⟩; have n0_ := Aside0.mk (below_step (by repeat (first | (with_reducible first | exact HB.out | apply below_alloc | apply pw_below_drewN | apply below_drew1) | exact HB.out)) hb); clear HB; have HB := n0_; clear n0_; (try clear hb); (try clear hb2); (try clear hk); (try clear hi)))
    go_loopg [0, 4, 5] k (fun kq v0 v4 v5 w' => ∃ (x0_1 : ByteArray) (x4_1 : Int) (x5_1 : Bool), v0 = .string x0_1 ∧ v4 = .int .i64 x4_1 ∧ v5 = .bool x5_1 ∧ Aside0 (span_Parse.l0 kq x0_1 x4_1 x5_1 = some (r1, r2)) ∧ Aside0 (kq ≤ k) ∧ Aside0 (Below w.heap.size w w'))
    case atStart => exact ⟨(t164), (0), (true), (by first | rfl | (simp; done) | (simp [*]; done)), (by first | rfl | (simp; done) | (simp [*]; done)), (by first | rfl | (simp; done) | (simp [*]; done)), H', ⟨Nat.le_refl _⟩, ⟨by repeat (first | (with_reducible first | exact HB.out | apply below_alloc | apply pw_below_drewN | apply below_drew1) | exact HB.out)⟩⟩
    case round =>
      clear H'
      try clear c1
      try clear c2
      try clear c2b0
      try clear c2b1
      try clear p2
      obtain ⟨x0_1, x4_1, x5_1, rfl, rfl, rfl, HA, HK1, HB⟩ := hrel
      cases gk with
      | zero => exact absurd HA.out (by simp [span_Parse.l0])
      | succ k1 =>
        have H := HA.out
        clear HA
        simp only [span_Parse.l0] at H
        have HC5 := Aside0.mk H
        clear H
        go_upto_region 6 with (fail)
        go_cut [17] (fun v17 wc => ∃ (kq : Nat) (x17_4 : Bool), v17 = .bool x17_4 ∧ Aside0 (span_Parse.j1 kq x0_1 x4_1 x17_4 = some (r1, r2)) ∧ Aside0 (kq ≤ k1) ∧ Aside0 (Below w.heap.size w wc))
        case first =>
          have H := HC5.out
          clear HC5
          by_cases c6 : x5_1 = true
          · subst c6
            have H1 : (span_Parse.j1 k1 x0_1 x4_1 true) = some (r1, r2) := by rw [if_pos rfl] at H; exact H
            clear H
            have H := H1
            clear H1
            have H' := Aside0.mk H
            clear H
            go_wp2
            go_meet
            case rel => exact ⟨_, (true), (by first | rfl | (simp; done) | (simp [*]; done)), H', ⟨by have := HK1.out; first | omega | exact Nat.le_refl _⟩, ⟨by repeat (first | (with_reducible first | exact HB.out | apply below_alloc | apply pw_below_drewN | apply below_drew1) | exact HB.out)⟩⟩
          · replace c6 := Bool.eq_false_iff.mpr c6
            subst c6
            have H1 : (span_Parse.j1 k1 x0_1 x4_1 (x0_1.toList != ([] : List UInt8))) = some (r1, r2) := by rw [if_neg (show ¬ (false = true) by decide)] at H; exact H
            clear H
            have H := H1
            clear H1
            have H' := Aside0.mk H
            clear H
            go_wp2
            go_meet
            case rel => exact ⟨_, ((x0_1.toList != ([] : List UInt8))), (by first | rfl | (generalize x0_1.toList = l_; cases l_ <;> rfl)), H', ⟨by have := HK1.out; first | omega | exact Nat.le_refl _⟩, ⟨by repeat (first | (with_reducible first | exact HB.out | apply below_alloc | apply pw_below_drewN | apply below_drew1) | exact HB.out)⟩⟩
        case rest =>
          clear HC5
          try clear c1
          try clear c2
          try clear c2b0
          try clear c2b1
          try clear p2
          try clear c6
          try clear p2
          obtain ⟨kq, x17_4, rfl, HA, HJ4, HB⟩ := hcut
          cases kq with
          | zero => exact absurd HA.out (by simp [span_Parse.j1])
          | succ kj4 =>
            have H := HA.out
            clear HA
            simp only [span_Parse.j1] at H
            by_cases c7 : x17_4 = true
            · subst c7
              have H1 : ((span_part.f kj4 x0_1).bind fun bt165 => (if bt165.2.2 = true then ((span_Add.f kj4 x4_1 bt165.1).bind fun t168 => (span_Parse.l0 kj4 bt165.2.1 t168 false)) else (some (0, 10)))) = some (r1, r2) := by rw [if_pos rfl] at H; exact H
              clear H
              have H := H1
              clear H1
              replace H := Option.bind_eq_some_iff.mp H
              obtain ⟨⟨t165, t166, t167⟩, A80, H⟩ := H
              replace H : (if t167 = true then ((span_Add.f kj4 x4_1 t165).bind fun t168 => (span_Parse.l0 kj4 t166 t168 false)) else (some (0, 10))) = some (r1, r2) := H
              have A8 := Aside0.mk A80
              clear A80
              by_cases c9 : t167 = true
              · subst c9
                have H1 : ((span_Add.f kj4 x4_1 t165).bind fun t168 => (span_Parse.l0 kj4 t166 t168 false)) = some (r1, r2) := by rw [if_pos rfl] at H; exact H
                clear H
                have H := H1
                clear H1
                replace H := Option.bind_eq_some_iff.mp H
                obtain ⟨t168, A100, H⟩ := H
                replace H : (span_Parse.l0 kj4 t166 t168 false) = some (r1, r2) := H
                have A10 := Aside0.mk A100
                clear A100
                have H' := Aside0.mk H
                clear H
                go_wp2_with (first | ((with_reducible refine gate_callee (f := 18) rfl ?_); refine goesL_ (some 20) rfl rfl Tryd.func18 (by kernel_rfl) rfl #[.string x0_1] rfl (by (try simp only [List.map_toArray, List.map_cons, List.map_nil]); first | done | rfl | (simp only [List.length_drop, List.length_take]; rfl)) ?_; (with_reducible refine (span_part.calls kj4 x0_1 t165 t166 true _ A8.out).mono ?_); rintro e w11 ⟨rfl, hb⟩; refine ⟨_, rfl, ?_⟩; have n0_ := Aside0.mk (below_step (by repeat (first | (with_reducible first | exact HB.out | apply below_alloc | apply pw_below_drewN | apply below_drew1) | exact HB.out)) hb); clear HB; have HB := n0_; clear n0_; (try clear hb); (try clear hb2); (try clear hk); (try clear hi)) | ((with_reducible refine gate_callee (f := 12) rfl ?_); refine goesL_ (some 28) rfl rfl Tryd.func12 (by kernel_rfl) rfl #[.int .i64 x4_1, .int .i64 t165] rfl (by (try simp only [List.map_toArray, List.map_cons, List.map_nil]); first | done | rfl | (simp only [List.length_drop, List.length_take]; rfl)) ?_; (with_reducible refine (span_Add.calls kj4 x4_1 t165 t168 _ A10.out).mono ?_); rintro e w' ⟨rfl, ⟨nd, rfl⟩⟩; refine ⟨_, rfl, ?_⟩))
                go_roundg kj4
                case measure => have := HK1.out; have := HJ4.out; omega
                case rel => exact ⟨(t166), (t168), (false), (by first | rfl | (simp; done) | (simp [*]; done)), (by first | rfl | (simp; done) | (simp [*]; done)), (by first | rfl | (simp; done) | (simp [*]; done)), H', ⟨by have := HK1.out; have := HJ4.out; omega⟩, ⟨by repeat (first | (with_reducible first | exact HB.out | apply below_alloc | apply pw_below_drewN | apply below_drew1) | exact HB.out)⟩⟩
              · replace c9 := Bool.eq_false_iff.mpr c9
                subst c9
                have H1 : (some (0, 10)) = some (r1, r2) := by rw [if_neg (show ¬ (false = true) by decide)] at H; exact H
                clear H
                have H := H1
                clear H1
                simp only [Option.some.injEq, Prod.mk.injEq] at H
                obtain ⟨rfl, rfl⟩ := H
                go_wp2_with (first | ((with_reducible refine gate_callee (f := 18) rfl ?_); refine goesL_ (some 20) rfl rfl Tryd.func18 (by kernel_rfl) rfl #[.string x0_1] rfl (by (try simp only [List.map_toArray, List.map_cons, List.map_nil]); first | done | rfl | (simp only [List.length_drop, List.length_take]; rfl)) ?_; (with_reducible refine (span_part.calls kj4 x0_1 t165 t166 false _ A8.out).mono ?_); rintro e w12 ⟨rfl, hb⟩; refine ⟨_, rfl, ?_⟩; have n0_ := Aside0.mk (below_step (by repeat (first | (with_reducible first | exact HB.out | apply below_alloc | apply pw_below_drewN | apply below_drew1) | exact HB.out)) hb); clear HB; have HB := n0_; clear n0_; (try clear hb); (try clear hb2); (try clear hk); (try clear hi)))
                go_ret2
                exact ⟨by first | rfl | (simp [errW_none, errW_some] <;> rfl) | (simp [*, errW_none, errW_some] <;> rfl), by repeat (first | (with_reducible first | exact HB.out | apply below_alloc | apply pw_below_drewN | apply below_drew1) | exact HB.out)⟩
            · replace c7 := Bool.eq_false_iff.mpr c7
              subst c7
              have H1 : (some (x4_1, 0)) = some (r1, r2) := by rw [if_neg (show ¬ (false = true) by decide)] at H; exact H
              clear H
              have H := H1
              clear H1
              simp only [Option.some.injEq, Prod.mk.injEq] at H
              obtain ⟨rfl, rfl⟩ := H
              go_wp2
              go_ret2
              exact ⟨by first | rfl | (simp [errW_none, errW_some] <;> rfl) | (simp [*, errW_none, errW_some] <;> rfl), by repeat (first | (with_reducible first | exact HB.out | apply below_alloc | apply pw_below_drewN | apply below_drew1) | exact HB.out)⟩
def reveilleref1_blanks.l0 : Nat → ByteArray → Int → Option (Int)
  | 0, _, _ => none
  | k + 1, x0, x1 => if x1 < (x0.size : Int) then (if 0 ≤ x1 then (if (bt x0 x1) = 32 then (reveilleref1_blanks.l0 k x0 (wrap64 (x1 + 1))) else (some x1)) else (none)) else (some x1)
def reveilleref1_blanks.f (k : Nat) (a0 : ByteArray) (a1 : Int) : Option (Int) := reveilleref1_blanks.l0 k a0 a1
theorem reveilleref1_blanks.mono_l : ∀ k, (∀ y0 y1, LeO (reveilleref1_blanks.l0 k y0 y1) (reveilleref1_blanks.l0 (k + 1) y0 y1))
  | 0 => fun _ _ r h => by simp [reveilleref1_blanks.l0] at h
  | k + 1 => by
    have ih0 := reveilleref1_blanks.mono_l k
    · intro y0 y1
      unfold reveilleref1_blanks.l0
      repeat' first
      | (with_reducible exact ih0 _ _)
      | (with_reducible exact LeO.refl _)
      | (with_reducible exact LeO.none _)
      | (with_reducible refine LeO.ite ?_ ?_)
      | (with_reducible refine LeO.bind ?_ (fun _ => ?_))
      | exact ih0 _ _
      | exact LeO.none _
      | refine LeO.ite ?_ ?_
      | refine LeO.bind ?_ (fun _ => ?_)
theorem reveilleref1_blanks.mono : ∀ a0 a1 k, LeO (reveilleref1_blanks.f k a0 a1) (reveilleref1_blanks.f (k + 1) a0 a1) := by
  intro a0 a1 k
  have ih0 := reveilleref1_blanks.mono_l k
  unfold reveilleref1_blanks.f
  repeat' first
      | (with_reducible exact ih0 _ _)
      | (with_reducible exact LeO.refl _)
      | (with_reducible exact LeO.none _)
      | (with_reducible refine LeO.ite ?_ ?_)
      | (with_reducible refine LeO.bind ?_ (fun _ => ?_))
      | exact ih0 _ _
      | exact LeO.none _
      | refine LeO.ite ?_ ?_
      | refine LeO.bind ?_ (fun _ => ?_)
set_option maxHeartbeats 8000000 in
set_option maxRecDepth 100000 in
theorem reveilleref1_blanks.calls (k : Nat) (a0 : ByteArray) (a1 : Int) (r : Int) (w : World) (h : reveilleref1_blanks.f k a0 a1 = some r) :
    Calls Tryd.prog 21 #[.string a0, .int .i64 a1] w fun e w' => e = .returned (.int .i64 r) ∧ Drawn0 w w' := by
  have H : (reveilleref1_blanks.l0 k a0 a1) = some r := h
  clear h
  have H' := Aside0.mk H
  clear H
  go_enter Tryd.func21, Tryd.ntmps21
  go_wp2
  go_loopg [1] k (fun kq v1 w' => ∃ (x1_1 : Int), v1 = .int .i64 x1_1 ∧ Aside0 (reveilleref1_blanks.l0 kq a0 x1_1 = some r) ∧ Aside0 (kq ≤ k) ∧ Drawn0 w w')
  case atStart => exact ⟨(a1), (by first | rfl | (simp; done) | (simp [*]; done)), H', ⟨Nat.le_refl _⟩, by repeat (first | exact Drawn0.refl _ | apply Drawn0.step)⟩
  case round =>
    clear H'
    try clear c2
    try clear p2
    obtain ⟨x1_1, rfl, HA, HK1, ⟨m1, rfl⟩⟩ := hrel
    cases gk with
    | zero => exact absurd HA.out (by simp [reveilleref1_blanks.l0])
    | succ k1 =>
      have H := HA.out
      clear HA
      simp only [reveilleref1_blanks.l0] at H
      by_cases c3 : x1_1 < (a0.size : Int)
      · rw [if_pos c3] at H
        have c3b0 : decide (x1_1 < (a0.size : Int)) = true := decide_eq_true c3
        clear c3
        by_cases c4 : 0 ≤ x1_1
        · rw [if_pos c4] at H
          have c4b0 : decide (0 ≤ x1_1) = true := decide_eq_true c4
          clear c4
          by_cases c6 : (bt a0 x1_1) = 32
          · rw [if_pos c6] at H
            have c6b0 : ((bt a0 x1_1) == 32) = true := beq_iff_eq.mpr c6
            have c6b1 : ((bt a0 x1_1) != 32) = false := bne_eq_false_iff_eq.mpr c6
            clear c6
            have H' := Aside0.mk H
            clear H
            have p5 : 0 ≤ (x1_1 : Int) := of_decide_eq_true (by first | (with_reducible assumption) | assumption)
            have q5 : x1_1 < (a0.size : Int) := of_decide_eq_true (by first | (with_reducible assumption) | assumption)
            have hx5 := bt_at a0 x1_1
            replace p5 := eq_true p5
            replace q5 := eq_true q5
            go_wp2
            go_roundg k1
            case measure => have := HK1.out; omega
            case rel => exact ⟨(wrap64 (x1_1 + 1)), (by first | rfl | (simp; done) | (simp [*]; done)), H', ⟨by have := HK1.out; omega⟩, by repeat (first | exact Drawn0.refl _ | apply Drawn0.step)⟩
          · rw [if_neg c6] at H
            have c6b0 : ((bt a0 x1_1) == 32) = false := beq_eq_false_iff_ne.mpr c6
            have c6b1 : ((bt a0 x1_1) != 32) = true := bne_iff_ne.mpr c6
            obtain rfl := Option.some.inj H
            have p5 : 0 ≤ (x1_1 : Int) := of_decide_eq_true (by first | (with_reducible assumption) | assumption)
            have q5 : x1_1 < (a0.size : Int) := of_decide_eq_true (by first | (with_reducible assumption) | assumption)
            have hx5 := bt_at a0 x1_1
            replace p5 := eq_true p5
            replace q5 := eq_true q5
            go_wp2
            go_ret
            exact ⟨by first | rfl | (simp; done) | (simp [*]; done), by repeat (first | exact Drawn0.refl _ | apply Drawn0.step)⟩
        · rw [if_neg c4] at H
          exact absurd H (by simp)
      · rw [if_neg c3] at H
        have c3b0 : decide (x1_1 < (a0.size : Int)) = false := decide_eq_false c3
        clear c3
        obtain rfl := Option.some.inj H
        go_wp2
        go_ret
        exact ⟨by first | rfl | (simp; done) | (simp [*]; done), by repeat (first | exact Drawn0.refl _ | apply Drawn0.step)⟩
def reveilleref1_trimmed.l0 : Nat → ByteArray → Option (ByteArray)
  | 0, _ => none
  | k + 1, x0 => if (x0.size : Int) > 0 then (if 0 ≤ (wrap64 ((x0.size : Int) - 1)) then (if (wrap64 ((x0.size : Int) - 1)) < (x0.size : Int) then (if (bt x0 (wrap64 ((x0.size : Int) - 1))) = 32 then (if (wrap64 ((x0.size : Int) - 1)) ≤ (x0.size : Int) then (reveilleref1_trimmed.l0 k (x0.extract 0 ((wrap64 ((x0.size : Int) - 1)) : Int).toNat)) else (none)) else (some x0)) else (none)) else (none)) else (some x0)
def reveilleref1_trimmed.f (k : Nat) (a0 : ByteArray) : Option (ByteArray) := (reveilleref1_blanks.f k a0 0).bind fun t174 => (if 0 ≤ t174 then (if t174 ≤ (a0.size : Int) then (reveilleref1_trimmed.l0 k (a0.extract (t174 : Int).toNat a0.size)) else (none)) else (none))
theorem reveilleref1_trimmed.mono_l : ∀ k, (∀ y0, LeO (reveilleref1_trimmed.l0 k y0) (reveilleref1_trimmed.l0 (k + 1) y0))
  | 0 => fun _ r h => by simp [reveilleref1_trimmed.l0] at h
  | k + 1 => by
    have ih0 := reveilleref1_trimmed.mono_l k
    · intro y0
      unfold reveilleref1_trimmed.l0
      repeat' first
      | (with_reducible exact ih0 _)
      | (with_reducible exact reveilleref1_blanks.mono _ _ _)
      | (with_reducible exact LeO.refl _)
      | (with_reducible exact LeO.none _)
      | (with_reducible refine LeO.ite ?_ ?_)
      | (with_reducible refine LeO.bind ?_ (fun _ => ?_))
      | exact ih0 _
      | exact reveilleref1_blanks.mono _ _ _
      | exact LeO.none _
      | refine LeO.ite ?_ ?_
      | refine LeO.bind ?_ (fun _ => ?_)
theorem reveilleref1_trimmed.mono : ∀ a0 k, LeO (reveilleref1_trimmed.f k a0) (reveilleref1_trimmed.f (k + 1) a0) := by
  intro a0 k
  have ih0 := reveilleref1_trimmed.mono_l k
  unfold reveilleref1_trimmed.f
  repeat' first
      | (with_reducible exact ih0 _)
      | (with_reducible exact reveilleref1_blanks.mono _ _ _)
      | (with_reducible exact LeO.refl _)
      | (with_reducible exact LeO.none _)
      | (with_reducible refine LeO.ite ?_ ?_)
      | (with_reducible refine LeO.bind ?_ (fun _ => ?_))
      | exact ih0 _
      | exact reveilleref1_blanks.mono _ _ _
      | exact LeO.none _
      | refine LeO.ite ?_ ?_
      | refine LeO.bind ?_ (fun _ => ?_)
set_option maxHeartbeats 8000000 in
set_option maxRecDepth 100000 in
theorem reveilleref1_trimmed.calls (k : Nat) (a0 : ByteArray) (r : ByteArray) (w : World) (h : reveilleref1_trimmed.f k a0 = some r) :
    Calls Tryd.prog 19 #[.string a0] w fun e w' => e = .returned (.string r) ∧ Drawn0 w w' := by
  have H : ((reveilleref1_blanks.f k a0 0).bind fun t174 => (if 0 ≤ t174 then (if t174 ≤ (a0.size : Int) then (reveilleref1_trimmed.l0 k (a0.extract (t174 : Int).toNat a0.size)) else (none)) else (none))) = some r := h
  clear h
  replace H := Option.bind_eq_some_iff.mp H
  obtain ⟨t174, A20, H⟩ := H
  replace H : (if 0 ≤ t174 then (if t174 ≤ (a0.size : Int) then (reveilleref1_trimmed.l0 k (a0.extract (t174 : Int).toNat a0.size)) else (none)) else (none)) = some r := H
  have A2 := Aside0.mk A20
  clear A20
  by_cases c3 : 0 ≤ t174
  · rw [if_pos c3] at H
    have c3b0 := eq_true c3
    have c3b1 : decide (0 ≤ t174) = true := decide_eq_true c3
    clear c3
    by_cases c4 : t174 ≤ (a0.size : Int)
    · rw [if_pos c4] at H
      have c4b0 := eq_true c4
      have c4b1 : decide (t174 ≤ (a0.size : Int)) = true := decide_eq_true c4
      clear c4
      have H' := Aside0.mk H
      clear H
      go_enter Tryd.func19, Tryd.ntmps19
      go_wp2_with (first | ((with_reducible refine gate_callee (f := 21) rfl ?_); refine goesL_ (some 5) rfl rfl Tryd.func21 (by kernel_rfl) rfl #[.string a0, .int .i64 0] rfl (by (try simp only [List.map_toArray, List.map_cons, List.map_nil]); first | done | rfl | (simp only [List.length_drop, List.length_take]; rfl)) ?_; (with_reducible refine (reveilleref1_blanks.calls k a0 0 t174 _ A2.out).mono ?_); rintro e w' ⟨rfl, ⟨nd, rfl⟩⟩; refine ⟨_, rfl, ?_⟩))
      go_loopg [0] k (fun kq v0 w' => ∃ (x0_1 : ByteArray), v0 = .string x0_1 ∧ Aside0 (reveilleref1_trimmed.l0 kq x0_1 = some r) ∧ Aside0 (kq ≤ k) ∧ Drawn0 w w')
      case atStart => exact ⟨(a0.extract (t174 : Int).toNat a0.size), (by first | rfl | (simp; done) | (simp [*]; done)), H', ⟨Nat.le_refl _⟩, by repeat (first | exact Drawn0.refl _ | apply Drawn0.step)⟩
      case round =>
        clear H'
        try clear c1
        try clear c2
        try clear p2
        try clear c3
        try clear c3b0
        try clear c3b1
        try clear c4
        try clear c4b0
        try clear c4b1
        obtain ⟨x0_1, rfl, HA, HK1, ⟨m1, rfl⟩⟩ := hrel
        cases gk with
        | zero => exact absurd HA.out (by simp [reveilleref1_trimmed.l0])
        | succ k1 =>
          have H := HA.out
          clear HA
          simp only [reveilleref1_trimmed.l0] at H
          by_cases c5 : (x0_1.size : Int) > 0
          · rw [if_pos c5] at H
            have c5b0 : decide (0 < (x0_1.size : Int)) = true := decide_eq_true c5
            have c5b1 : decide (0 < x0_1.size) = true := decide_eq_true (by omega)
            clear c5
            obtain ⟨ji6, hji6⟩ : ∃ j_ : Int, (wrap64 ((x0_1.size : Int) - 1)) = j_ := ⟨_, rfl⟩
            replace H : (if 0 ≤ (ji6) then (if (ji6) < (x0_1.size : Int) then (if (bt x0_1 (ji6)) = 32 then (if (ji6) ≤ (x0_1.size : Int) then (reveilleref1_trimmed.l0 k1 (x0_1.extract 0 ((ji6) : Int).toNat)) else (none)) else (some x0_1)) else (none)) else (none)) = some r := by first | (rw [hji6] at H; exact H) | (simp only [hji6] at H ⊢; exact H)
            have hji6w : (IntKind.i64.wrap ((x0_1.size : Int) - 1)) = ji6 := (i64_w _).trans hji6
            by_cases c7 : 0 ≤ (ji6)
            · rw [if_pos c7] at H
              have c7b0 : decide (0 ≤ (ji6)) = true := decide_eq_true c7
              clear c7
              by_cases c8 : (ji6) < (x0_1.size : Int)
              · rw [if_pos c8] at H
                have c8b0 : decide ((ji6) < (x0_1.size : Int)) = true := decide_eq_true c8
                clear c8
                by_cases c10 : (bt x0_1 (ji6)) = 32
                · rw [if_pos c10] at H
                  have c10b0 : ((bt x0_1 (ji6)) == 32) = true := beq_iff_eq.mpr c10
                  have c10b1 : ((bt x0_1 (ji6)) != 32) = false := bne_eq_false_iff_eq.mpr c10
                  clear c10
                  have c11b0 := eq_true (of_decide_eq_true (by first | (with_reducible assumption) | assumption) : 0 ≤ (ji6))
                  by_cases c12 : (ji6) ≤ (x0_1.size : Int)
                  · rw [if_pos c12] at H
                    have c12b0 := eq_true c12
                    have c12b1 : decide ((ji6) ≤ (x0_1.size : Int)) = true := decide_eq_true c12
                    clear c12
                    have H' := Aside0.mk H
                    clear H
                    have p9 : 0 ≤ ((ji6) : Int) := of_decide_eq_true (by first | (with_reducible assumption) | assumption)
                    have q9 : (ji6) < (x0_1.size : Int) := of_decide_eq_true (by first | (with_reducible assumption) | assumption)
                    have hx9 := bt_at x0_1 (ji6)
                    replace p9 := eq_true p9
                    replace q9 := eq_true q9
                    go_wp2
                    go_roundg k1
                    case measure => have := HK1.out; omega
                    case rel => exact ⟨(x0_1.extract 0 ((ji6) : Int).toNat), (by first | rfl | (simp; done) | (simp only [← hji6] <;> (first | rfl | simp)) | (simp [*]; done)), H', ⟨by have := HK1.out; omega⟩, by repeat (first | exact Drawn0.refl _ | apply Drawn0.step)⟩
                  · rw [if_neg c12] at H
                    exact absurd H (by simp)
                · rw [if_neg c10] at H
                  have c10b0 : ((bt x0_1 (ji6)) == 32) = false := beq_eq_false_iff_ne.mpr c10
                  have c10b1 : ((bt x0_1 (ji6)) != 32) = true := bne_iff_ne.mpr c10
                  obtain rfl := Option.some.inj H
                  have p9 : 0 ≤ ((ji6) : Int) := of_decide_eq_true (by first | (with_reducible assumption) | assumption)
                  have q9 : (ji6) < (x0_1.size : Int) := of_decide_eq_true (by first | (with_reducible assumption) | assumption)
                  have hx9 := bt_at x0_1 (ji6)
                  replace p9 := eq_true p9
                  replace q9 := eq_true q9
                  go_wp2
                  go_ret
                  exact ⟨by first | rfl | (simp; done) | (simp only [← hji6] <;> (first | rfl | simp)) | (simp [*]; done), by repeat (first | exact Drawn0.refl _ | apply Drawn0.step)⟩
              · rw [if_neg c8] at H
                exact absurd H (by simp)
            · rw [if_neg c7] at H
              exact absurd H (by simp)
          · rw [if_neg c5] at H
            have c5b0 : decide (0 < (x0_1.size : Int)) = false := decide_eq_false c5
            have c5b1 : decide (0 < x0_1.size) = false := decide_eq_false (by omega)
            clear c5
            obtain rfl := Option.some.inj H
            go_wp2
            go_ret
            exact ⟨by first | rfl | (simp; done) | (simp [*]; done), by repeat (first | exact Drawn0.refl _ | apply Drawn0.step)⟩
    · rw [if_neg c4] at H
      exact absurd H (by simp)
  · rw [if_neg c3] at H
    exact absurd H (by simp)
def reveilleref1_digit.f (a0 : Int) : Option (Bool) := if a0 ≥ 48 then (some (decide (a0 ≤ 57))) else (some false)
set_option maxHeartbeats 8000000 in
set_option maxRecDepth 100000 in
theorem reveilleref1_digit.calls (a0 : Int) (r : Bool) (w : World) (h : reveilleref1_digit.f a0 = some r) :
    Calls Tryd.prog 20 #[.int .u8 a0] w fun e w' => e = .returned (.bool r) ∧ Drawn0 w w' := by
  have H : (if a0 ≥ 48 then (some (decide (a0 ≤ 57))) else (some false)) = some r := h
  clear h
  by_cases c2 : a0 ≥ 48
  · rw [if_pos c2] at H
    have c2b0 : decide (48 ≤ a0) = true := decide_eq_true c2
    clear c2
    obtain rfl := Option.some.inj H
    go_enter Tryd.func20, Tryd.ntmps20
    go_wp2
    go_ret
    exact ⟨by first | rfl | (simp; done) | (simp [*]; done), by repeat (first | exact Drawn0.refl _ | apply Drawn0.step)⟩
  · rw [if_neg c2] at H
    have c2b0 : decide (48 ≤ a0) = false := decide_eq_false c2
    clear c2
    obtain rfl := Option.some.inj H
    go_enter Tryd.func20, Tryd.ntmps20
    go_wp2
    go_ret
    exact ⟨by first | rfl | (simp; done) | (simp [*]; done), by repeat (first | exact Drawn0.refl _ | apply Drawn0.step)⟩
mutual
def reveilleref1_Add.j0 : Nat → Int → Int → Bool → Option (Int)
  | 0, _, _, _ => none
  | k + 1, x0, x1, x11 => if x11 = true then (some 9223372036854775807) else (if ((decide (x0 < 0)) == (decide (x1 < 0))) = true then (reveilleref1_Add.j1 k x0 (wrap64 (IntKind.u64.wrap ((IntKind.u64.wrap (x0)) + (IntKind.u64.wrap (x1))))) ((decide ((wrap64 (IntKind.u64.wrap ((IntKind.u64.wrap (x0)) + (IntKind.u64.wrap (x1))))) < 0)) != (decide (x0 < 0)))) else (reveilleref1_Add.j1 k x0 (wrap64 (IntKind.u64.wrap ((IntKind.u64.wrap (x0)) + (IntKind.u64.wrap (x1))))) false))
def reveilleref1_Add.j1 : Nat → Int → Int → Bool → Option (Int)
  | 0, _, _, _ => none
  | k + 1, x0, x5, x29 => if x29 = true then (if x0 < 0 then (some (-9223372036854775808)) else (some 9223372036854775807)) else (some x5)
end
def reveilleref1_Add.f (k : Nat) (a0 : Int) (a1 : Int) : Option (Int) := if a0 = 9223372036854775807 then (reveilleref1_Add.j0 k a0 a1 true) else (reveilleref1_Add.j0 k a0 a1 (a1 == 9223372036854775807))
theorem reveilleref1_Add.mono_l : ∀ k, (∀ y0 y1 y2, LeO (reveilleref1_Add.j0 k y0 y1 y2) (reveilleref1_Add.j0 (k + 1) y0 y1 y2)) ∧ (∀ y0 y1 y2, LeO (reveilleref1_Add.j1 k y0 y1 y2) (reveilleref1_Add.j1 (k + 1) y0 y1 y2))
  | 0 => ⟨fun _ _ _ r h => by simp [reveilleref1_Add.j0] at h, fun _ _ _ r h => by simp [reveilleref1_Add.j1] at h⟩
  | k + 1 => by
    obtain ⟨ih0, ih1⟩ := reveilleref1_Add.mono_l k
    refine ⟨?_, ?_⟩
    · intro y0 y1 y2
      unfold reveilleref1_Add.j0
      repeat' first
      | (with_reducible exact ih0 _ _ _)
      | (with_reducible exact ih1 _ _ _)
      | (with_reducible exact LeO.refl _)
      | (with_reducible exact LeO.none _)
      | (with_reducible refine LeO.ite ?_ ?_)
      | (with_reducible refine LeO.bind ?_ (fun _ => ?_))
      | exact ih0 _ _ _
      | exact ih1 _ _ _
      | exact LeO.none _
      | refine LeO.ite ?_ ?_
      | refine LeO.bind ?_ (fun _ => ?_)
    · intro y0 y1 y2
      unfold reveilleref1_Add.j1
      repeat' first
      | (with_reducible exact ih0 _ _ _)
      | (with_reducible exact ih1 _ _ _)
      | (with_reducible exact LeO.refl _)
      | (with_reducible exact LeO.none _)
      | (with_reducible refine LeO.ite ?_ ?_)
      | (with_reducible refine LeO.bind ?_ (fun _ => ?_))
      | exact ih0 _ _ _
      | exact ih1 _ _ _
      | exact LeO.none _
      | refine LeO.ite ?_ ?_
      | refine LeO.bind ?_ (fun _ => ?_)
theorem reveilleref1_Add.mono : ∀ a0 a1 k, LeO (reveilleref1_Add.f k a0 a1) (reveilleref1_Add.f (k + 1) a0 a1) := by
  intro a0 a1 k
  obtain ⟨ih0, ih1⟩ := reveilleref1_Add.mono_l k
  unfold reveilleref1_Add.f
  repeat' first
      | (with_reducible exact ih0 _ _ _)
      | (with_reducible exact ih1 _ _ _)
      | (with_reducible exact LeO.refl _)
      | (with_reducible exact LeO.none _)
      | (with_reducible refine LeO.ite ?_ ?_)
      | (with_reducible refine LeO.bind ?_ (fun _ => ?_))
      | exact ih0 _ _ _
      | exact ih1 _ _ _
      | exact LeO.none _
      | refine LeO.ite ?_ ?_
      | refine LeO.bind ?_ (fun _ => ?_)
set_option maxHeartbeats 8000000 in
set_option maxRecDepth 100000 in
theorem reveilleref1_Add.calls (k : Nat) (a0 : Int) (a1 : Int) (r : Int) (w : World) (h : reveilleref1_Add.f k a0 a1 = some r) :
    Calls Tryd.prog 24 #[.int .i64 a0, .int .i64 a1] w fun e w' => e = .returned (.int .i64 r) ∧ Drawn0 w w' := by
  have H : (if a0 = 9223372036854775807 then (reveilleref1_Add.j0 k a0 a1 true) else (reveilleref1_Add.j0 k a0 a1 (a1 == 9223372036854775807))) = some r := h
  clear h
  have HC3 := Aside0.mk H
  clear H
  go_enter Tryd.func24, Tryd.ntmps24
  go_upto_region 1 with (fail)
  go_cut [11] (fun v11 wc => ∃ (kq : Nat) (x11_2 : Bool), v11 = .bool x11_2 ∧ Aside0 (reveilleref1_Add.j0 kq a0 a1 x11_2 = some r) ∧ Aside0 (kq ≤ k) ∧ Drawn0 w wc)
  case first =>
    have H := HC3.out
    clear HC3
    by_cases c4 : a0 = 9223372036854775807
    · rw [if_pos c4] at H
      have c4b0 : (a0 == 9223372036854775807) = true := beq_iff_eq.mpr c4
      have c4b1 : (a0 != 9223372036854775807) = false := bne_eq_false_iff_eq.mpr c4
      clear c4
      (first | rw [c4b0] | (simp only [i64_w, i32_w]; rw [c4b0]) | skip)
      have H' := Aside0.mk H
      clear H
      go_wp2
      go_meet
      case rel => exact ⟨_, (true), (by first | rfl | (simp; done) | (simp [*]; done)), H', ⟨by first | omega | exact Nat.le_refl _⟩, by repeat (first | exact Drawn0.refl _ | apply Drawn0.step)⟩
    · rw [if_neg c4] at H
      have c4b0 : (a0 == 9223372036854775807) = false := beq_eq_false_iff_ne.mpr c4
      have c4b1 : (a0 != 9223372036854775807) = true := bne_iff_ne.mpr c4
      (first | rw [c4b0] | (simp only [i64_w, i32_w]; rw [c4b0]) | skip)
      have H' := Aside0.mk H
      clear H
      go_wp2
      go_meet
      case rel => exact ⟨_, ((a1 == 9223372036854775807)), (by first | rfl | (simp; done) | (simp [*]; done)), H', ⟨by first | omega | exact Nat.le_refl _⟩, by repeat (first | exact Drawn0.refl _ | apply Drawn0.step)⟩
  case rest =>
    clear HC3
    try clear c2
    try clear p2
    try clear c4
    try clear c4b0
    try clear c4b1
    obtain ⟨kq, x11_2, rfl, HA, HJ2, ⟨mc2, rfl⟩⟩ := hcut
    cases kq with
    | zero => exact absurd HA.out (by simp [reveilleref1_Add.j0])
    | succ kj2 =>
      have H := HA.out
      clear HA
      simp only [reveilleref1_Add.j0] at H
      by_cases c5 : x11_2 = true
      · subst c5
        have H1 : (some 9223372036854775807) = some r := by rw [if_pos rfl] at H; exact H
        clear H
        have H := H1
        clear H1
        obtain rfl := Option.some.inj H
        go_wp2
        go_ret
        exact ⟨by first | rfl | (simp; done) | (simp [*]; done), by repeat (first | exact Drawn0.refl _ | apply Drawn0.step)⟩
      · replace c5 := Bool.eq_false_iff.mpr c5
        subst c5
        have H1 : (if ((decide (a0 < 0)) == (decide (a1 < 0))) = true then (reveilleref1_Add.j1 kj2 a0 (wrap64 (IntKind.u64.wrap ((IntKind.u64.wrap (a0)) + (IntKind.u64.wrap (a1))))) ((decide ((wrap64 (IntKind.u64.wrap ((IntKind.u64.wrap (a0)) + (IntKind.u64.wrap (a1))))) < 0)) != (decide (a0 < 0)))) else (reveilleref1_Add.j1 kj2 a0 (wrap64 (IntKind.u64.wrap ((IntKind.u64.wrap (a0)) + (IntKind.u64.wrap (a1))))) false)) = some r := by rw [if_neg (show ¬ (false = true) by decide)] at H; exact H
        clear H
        have H := H1
        clear H1
        have HC6 := Aside0.mk H
        clear H
        go_upto_region 4 with (fail)
        go_cut [29] (fun v29 wc => ∃ (kq : Nat) (x29_5 : Bool), v29 = .bool x29_5 ∧ Aside0 (reveilleref1_Add.j1 kq a0 (wrap64 (IntKind.u64.wrap ((IntKind.u64.wrap (a0)) + (IntKind.u64.wrap (a1))))) x29_5 = some r) ∧ Aside0 (kq ≤ kj2) ∧ Drawn0 w wc)
        case first =>
          have H := HC6.out
          clear HC6
          by_cases c7 : ((decide (a0 < 0)) == (decide (a1 < 0))) = true
          · rw [if_pos c7] at H
            have c7b0 : ((decide (a0 < 0)) == (decide (a1 < 0))) = true := c7
            (try (have c7b1 : decide ((decide (a0 < 0)) = (decide (a1 < 0))) = true := by simpa using c7))
            (try (have c7b2 : ((decide (a0 < 0)) == (decide (a1 < 0))) = true := by simpa using c7))
            clear c7
            (first | rw [c7b0] | (simp only [i64_w, i32_w]; rw [c7b0]) | skip)
            have H' := Aside0.mk H
            clear H
            go_wp2
            go_meet
            case rel => exact ⟨_, (((decide ((wrap64 (IntKind.u64.wrap ((IntKind.u64.wrap (a0)) + (IntKind.u64.wrap (a1))))) < 0)) != (decide (a0 < 0)))), (by first | rfl | (simp; done) | (simp [*]; done)), H', ⟨by have := HJ2.out; first | omega | exact Nat.le_refl _⟩, by repeat (first | exact Drawn0.refl _ | apply Drawn0.step)⟩
          · rw [if_neg c7] at H
            have c7b0 : ((decide (a0 < 0)) == (decide (a1 < 0))) = false := by simpa using c7
            (try (have c7b1 : decide ((decide (a0 < 0)) = (decide (a1 < 0))) = false := by simpa using c7))
            (try (have c7b2 : ((decide (a0 < 0)) == (decide (a1 < 0))) = false := by simpa using c7))
            (try (have c7b3 : ¬ ((decide (a0 < 0)) = (decide (a1 < 0))) := by simpa using c7))
            clear c7
            (first | rw [c7b0] | (simp only [i64_w, i32_w]; rw [c7b0]) | skip)
            have H' := Aside0.mk H
            clear H
            go_wp2
            go_meet
            case rel => exact ⟨_, (false), (by first | rfl | (simp; done) | (simp [*]; done)), H', ⟨by have := HJ2.out; first | omega | exact Nat.le_refl _⟩, by repeat (first | exact Drawn0.refl _ | apply Drawn0.step)⟩
        case rest =>
          clear HC6
          try clear c2
          try clear p2
          try clear c4
          try clear c4b0
          try clear c4b1
          try clear c5
          try clear p6
          try clear c7
          try clear c7b0
          try clear c7b1
          try clear c7b2
          try clear p2
          obtain ⟨kq, x29_5, rfl, HA, HJ5, ⟨mc5, rfl⟩⟩ := hcut
          cases kq with
          | zero => exact absurd HA.out (by simp [reveilleref1_Add.j1])
          | succ kj5 =>
            have H := HA.out
            clear HA
            simp only [reveilleref1_Add.j1] at H
            by_cases c8 : x29_5 = true
            · subst c8
              have H1 : (if a0 < 0 then (some (-9223372036854775808)) else (some 9223372036854775807)) = some r := by rw [if_pos rfl] at H; exact H
              clear H
              have H := H1
              clear H1
              by_cases c9 : a0 < 0
              · rw [if_pos c9] at H
                have c9b0 : decide (a0 < 0) = true := decide_eq_true c9
                clear c9
                obtain rfl := Option.some.inj H
                go_wp2
                go_ret
                exact ⟨by first | rfl | (simp; done) | (simp [*]; done), by repeat (first | exact Drawn0.refl _ | apply Drawn0.step)⟩
              · rw [if_neg c9] at H
                have c9b0 : decide (a0 < 0) = false := decide_eq_false c9
                clear c9
                obtain rfl := Option.some.inj H
                go_wp2
                go_ret
                exact ⟨by first | rfl | (simp; done) | (simp [*]; done), by repeat (first | exact Drawn0.refl _ | apply Drawn0.step)⟩
            · replace c8 := Bool.eq_false_iff.mpr c8
              subst c8
              have H1 : (some (wrap64 (IntKind.u64.wrap ((IntKind.u64.wrap (a0)) + (IntKind.u64.wrap (a1)))))) = some r := by rw [if_neg (show ¬ (false = true) by decide)] at H; exact H
              clear H
              have H := H1
              clear H1
              obtain rfl := Option.some.inj H
              go_wp2
              go_ret
              exact ⟨by first | rfl | (simp; done) | (simp [*]; done), by repeat (first | exact Drawn0.refl _ | apply Drawn0.step)⟩
mutual
def reveilleref1_Parse.l0 : Nat → ByteArray → Int → Int → Option (Int × Int)
  | 0, _, _, _ => none
  | k + 1, x0, x4, x5 => if x5 < (x0.size : Int) then (reveilleref1_Parse.l1 k x0 x4 x5 0 0) else (some (x4, 0))
def reveilleref1_Parse.l1 : Nat → ByteArray → Int → Int → Int → Int → Option (Int × Int)
  | 0, _, _, _, _, _ => none
  | k + 1, x0, x4, x5, x6, x7 => if x5 < (x0.size : Int) then (if 0 ≤ x5 then ((reveilleref1_digit.f (bt x0 x5)).bind fun t179 => (reveilleref1_Parse.j2 k x0 x4 x5 x6 x7 t179)) else (none)) else (reveilleref1_Parse.j2 k x0 x4 x5 x6 x7 false)
def reveilleref1_Parse.j2 : Nat → ByteArray → Int → Int → Int → Int → Bool → Option (Int × Int)
  | 0, _, _, _, _, _, _ => none
  | k + 1, x0, x4, x5, x6, x7, x32 => if x32 = true then (if x7 = 18 then (some (0, 10)) else (if 0 ≤ x5 then (if x5 < (x0.size : Int) then (reveilleref1_Parse.l1 k x0 x4 (wrap64 (x5 + 1)) (IntKind.u64.wrap ((IntKind.u64.wrap (10 * x6)) + (((bt x0 x5) - 48) % 256))) (wrap64 (x7 + 1))) else (none)) else (none))) else (if x7 = 0 then (some (0, 10)) else ((reveilleref1_blanks.f k x0 x5).bind fun t180 => (if 0 ≤ t180 then (if t180 ≤ (x0.size : Int) then ((reveilleref1_unit.f (x0.extract (t180 : Int).toNat x0.size)).bind fun bt181 => (if bt181.2 = 0 then (reveilleref1_Parse.j3 k x0 x4 t180 x6 bt181.1 bt181.2 (decide (t180 < (x0.size : Int)))) else (reveilleref1_Parse.j3 k x0 x4 t180 x6 bt181.1 bt181.2 false))) else (none)) else (none))))
def reveilleref1_Parse.j3 : Nat → ByteArray → Int → Int → Int → Int → Int → Bool → Option (Int × Int)
  | 0, _, _, _, _, _, _, _ => none
  | k + 1, x0, x4, x5, x6, x8, x9, x66 => if x66 = true then (some (0, 10)) else ((reveilleref1_blanks.f k x0 (wrap64 (x5 + x9))).bind fun t183 => ((bits_Mul64.f x6 (IntKind.u64.wrap (x8))).bind fun bt184 => (if bt184.1 = 0 then (if bt184.2 < 9223372036854775807 then ((reveilleref1_Add.f k x4 (wrap64 (bt184.2))).bind fun t186 => (reveilleref1_Parse.l0 k x0 t186 t183)) else ((reveilleref1_Add.f k x4 9223372036854775807).bind fun t187 => (reveilleref1_Parse.l0 k x0 t187 t183))) else ((reveilleref1_Add.f k x4 9223372036854775807).bind fun t188 => (reveilleref1_Parse.l0 k x0 t188 t183)))))
end
def reveilleref1_Parse.f (k : Nat) (a0 : ByteArray) : Option (Int × Int) := if a0.toList = ([105, 110, 102, 105, 110, 105, 116, 121] : List UInt8) then (some (9223372036854775807, 0)) else ((reveilleref1_trimmed.f k a0).bind fun t178 => (if t178.toList = ([] : List UInt8) then (some (0, 10)) else (reveilleref1_Parse.l0 k t178 0 0)))
theorem reveilleref1_Parse.mono_l : ∀ k, (∀ y0 y1 y2, LeO (reveilleref1_Parse.l0 k y0 y1 y2) (reveilleref1_Parse.l0 (k + 1) y0 y1 y2)) ∧ (∀ y0 y1 y2 y3 y4, LeO (reveilleref1_Parse.l1 k y0 y1 y2 y3 y4) (reveilleref1_Parse.l1 (k + 1) y0 y1 y2 y3 y4)) ∧ (∀ y0 y1 y2 y3 y4 y5, LeO (reveilleref1_Parse.j2 k y0 y1 y2 y3 y4 y5) (reveilleref1_Parse.j2 (k + 1) y0 y1 y2 y3 y4 y5)) ∧ (∀ y0 y1 y2 y3 y4 y5 y6, LeO (reveilleref1_Parse.j3 k y0 y1 y2 y3 y4 y5 y6) (reveilleref1_Parse.j3 (k + 1) y0 y1 y2 y3 y4 y5 y6))
  | 0 => ⟨fun _ _ _ r h => by simp [reveilleref1_Parse.l0] at h, fun _ _ _ _ _ r h => by simp [reveilleref1_Parse.l1] at h, fun _ _ _ _ _ _ r h => by simp [reveilleref1_Parse.j2] at h, fun _ _ _ _ _ _ _ r h => by simp [reveilleref1_Parse.j3] at h⟩
  | k + 1 => by
    obtain ⟨ih0, ih1, ih2, ih3⟩ := reveilleref1_Parse.mono_l k
    refine ⟨?_, ?_, ?_, ?_⟩
    · intro y0 y1 y2
      unfold reveilleref1_Parse.l0
      repeat' first
      | (with_reducible exact ih0 _ _ _)
      | (with_reducible exact ih1 _ _ _ _ _)
      | (with_reducible exact ih2 _ _ _ _ _ _)
      | (with_reducible exact ih3 _ _ _ _ _ _ _)
      | (with_reducible exact reveilleref1_Add.mono _ _ _)
      | (with_reducible exact reveilleref1_blanks.mono _ _ _)
      | (with_reducible exact reveilleref1_trimmed.mono _ _)
      | (with_reducible exact LeO.refl _)
      | (with_reducible exact LeO.none _)
      | (with_reducible refine LeO.ite ?_ ?_)
      | (with_reducible refine LeO.bind ?_ (fun _ => ?_))
      | exact ih0 _ _ _
      | exact ih1 _ _ _ _ _
      | exact ih2 _ _ _ _ _ _
      | exact ih3 _ _ _ _ _ _ _
      | exact reveilleref1_Add.mono _ _ _
      | exact reveilleref1_blanks.mono _ _ _
      | exact reveilleref1_trimmed.mono _ _
      | exact LeO.none _
      | refine LeO.ite ?_ ?_
      | refine LeO.bind ?_ (fun _ => ?_)
    · intro y0 y1 y2 y3 y4
      unfold reveilleref1_Parse.l1
      repeat' first
      | (with_reducible exact ih0 _ _ _)
      | (with_reducible exact ih1 _ _ _ _ _)
      | (with_reducible exact ih2 _ _ _ _ _ _)
      | (with_reducible exact ih3 _ _ _ _ _ _ _)
      | (with_reducible exact reveilleref1_Add.mono _ _ _)
      | (with_reducible exact reveilleref1_blanks.mono _ _ _)
      | (with_reducible exact reveilleref1_trimmed.mono _ _)
      | (with_reducible exact LeO.refl _)
      | (with_reducible exact LeO.none _)
      | (with_reducible refine LeO.ite ?_ ?_)
      | (with_reducible refine LeO.bind ?_ (fun _ => ?_))
      | exact ih0 _ _ _
      | exact ih1 _ _ _ _ _
      | exact ih2 _ _ _ _ _ _
      | exact ih3 _ _ _ _ _ _ _
      | exact reveilleref1_Add.mono _ _ _
      | exact reveilleref1_blanks.mono _ _ _
      | exact reveilleref1_trimmed.mono _ _
      | exact LeO.none _
      | refine LeO.ite ?_ ?_
      | refine LeO.bind ?_ (fun _ => ?_)
    · intro y0 y1 y2 y3 y4 y5
      unfold reveilleref1_Parse.j2
      repeat' first
      | (with_reducible exact ih0 _ _ _)
      | (with_reducible exact ih1 _ _ _ _ _)
      | (with_reducible exact ih2 _ _ _ _ _ _)
      | (with_reducible exact ih3 _ _ _ _ _ _ _)
      | (with_reducible exact reveilleref1_Add.mono _ _ _)
      | (with_reducible exact reveilleref1_blanks.mono _ _ _)
      | (with_reducible exact reveilleref1_trimmed.mono _ _)
      | (with_reducible exact LeO.refl _)
      | (with_reducible exact LeO.none _)
      | (with_reducible refine LeO.ite ?_ ?_)
      | (with_reducible refine LeO.bind ?_ (fun _ => ?_))
      | exact ih0 _ _ _
      | exact ih1 _ _ _ _ _
      | exact ih2 _ _ _ _ _ _
      | exact ih3 _ _ _ _ _ _ _
      | exact reveilleref1_Add.mono _ _ _
      | exact reveilleref1_blanks.mono _ _ _
      | exact reveilleref1_trimmed.mono _ _
      | exact LeO.none _
      | refine LeO.ite ?_ ?_
      | refine LeO.bind ?_ (fun _ => ?_)
    · intro y0 y1 y2 y3 y4 y5 y6
      unfold reveilleref1_Parse.j3
      repeat' first
      | (with_reducible exact ih0 _ _ _)
      | (with_reducible exact ih1 _ _ _ _ _)
      | (with_reducible exact ih2 _ _ _ _ _ _)
      | (with_reducible exact ih3 _ _ _ _ _ _ _)
      | (with_reducible exact reveilleref1_Add.mono _ _ _)
      | (with_reducible exact reveilleref1_blanks.mono _ _ _)
      | (with_reducible exact reveilleref1_trimmed.mono _ _)
      | (with_reducible exact LeO.refl _)
      | (with_reducible exact LeO.none _)
      | (with_reducible refine LeO.ite ?_ ?_)
      | (with_reducible refine LeO.bind ?_ (fun _ => ?_))
      | exact ih0 _ _ _
      | exact ih1 _ _ _ _ _
      | exact ih2 _ _ _ _ _ _
      | exact ih3 _ _ _ _ _ _ _
      | exact reveilleref1_Add.mono _ _ _
      | exact reveilleref1_blanks.mono _ _ _
      | exact reveilleref1_trimmed.mono _ _
      | exact LeO.none _
      | refine LeO.ite ?_ ?_
      | refine LeO.bind ?_ (fun _ => ?_)
theorem reveilleref1_Parse.mono : ∀ a0 k, LeO (reveilleref1_Parse.f k a0) (reveilleref1_Parse.f (k + 1) a0) := by
  intro a0 k
  obtain ⟨ih0, ih1, ih2, ih3⟩ := reveilleref1_Parse.mono_l k
  unfold reveilleref1_Parse.f
  repeat' first
      | (with_reducible exact ih0 _ _ _)
      | (with_reducible exact ih1 _ _ _ _ _)
      | (with_reducible exact ih2 _ _ _ _ _ _)
      | (with_reducible exact ih3 _ _ _ _ _ _ _)
      | (with_reducible exact reveilleref1_Add.mono _ _ _)
      | (with_reducible exact reveilleref1_blanks.mono _ _ _)
      | (with_reducible exact reveilleref1_trimmed.mono _ _)
      | (with_reducible exact LeO.refl _)
      | (with_reducible exact LeO.none _)
      | (with_reducible refine LeO.ite ?_ ?_)
      | (with_reducible refine LeO.bind ?_ (fun _ => ?_))
      | exact ih0 _ _ _
      | exact ih1 _ _ _ _ _
      | exact ih2 _ _ _ _ _ _
      | exact ih3 _ _ _ _ _ _ _
      | exact reveilleref1_Add.mono _ _ _
      | exact reveilleref1_blanks.mono _ _ _
      | exact reveilleref1_trimmed.mono _ _
      | exact LeO.none _
      | refine LeO.ite ?_ ?_
      | refine LeO.bind ?_ (fun _ => ?_)
set_option maxHeartbeats 8000000 in
set_option maxRecDepth 100000 in
theorem reveilleref1_Parse.calls (k : Nat) (a0 : ByteArray) (r1 : Int) (r2 : Int) (w : World) (h : reveilleref1_Parse.f k a0 = some (r1, r2)) :
    Calls Tryd.prog 10 #[.string a0] w fun e w' => e = .returned (.tuple #[.int .i64 r1, .int .i64 r2]) ∧ Below w.heap.size w w' := by
  have HB := Aside0.mk (Below.refl w.heap.size w)
  have H : (if a0.toList = ([105, 110, 102, 105, 110, 105, 116, 121] : List UInt8) then (some (9223372036854775807, 0)) else ((reveilleref1_trimmed.f k a0).bind fun t178 => (if t178.toList = ([] : List UInt8) then (some (0, 10)) else (reveilleref1_Parse.l0 k t178 0 0)))) = some (r1, r2) := h
  clear h
  by_cases c2 : a0.toList = ([105, 110, 102, 105, 110, 105, 116, 121] : List UInt8)
  · rw [if_pos c2] at H
    have c2b0 : (a0.toList == ([105, 110, 102, 105, 110, 105, 116, 121] : List UInt8)) = true := beq_iff_eq.mpr c2
    have c2b1 : (a0.toList != ([105, 110, 102, 105, 110, 105, 116, 121] : List UInt8)) = false := bne_eq_false_iff_eq.mpr c2
    clear c2
    simp only [Option.some.injEq, Prod.mk.injEq] at H
    obtain ⟨rfl, rfl⟩ := H
    go_enter Tryd.func10, Tryd.ntmps10
    go_wp2
    go_ret2
    exact ⟨by first | rfl | (simp [errW_none, errW_some] <;> rfl) | (simp [*, errW_none, errW_some] <;> rfl), by repeat (first | (with_reducible first | exact HB.out | apply below_alloc | apply pw_below_drewN | apply below_drew1) | exact HB.out)⟩
  · rw [if_neg c2] at H
    have c2b0 : (a0.toList == ([105, 110, 102, 105, 110, 105, 116, 121] : List UInt8)) = false := beq_eq_false_iff_ne.mpr c2
    have c2b1 : (a0.toList != ([105, 110, 102, 105, 110, 105, 116, 121] : List UInt8)) = true := bne_iff_ne.mpr c2
    replace H := Option.bind_eq_some_iff.mp H
    obtain ⟨t178, A30, H⟩ := H
    replace H : (if t178.toList = ([] : List UInt8) then (some (0, 10)) else (reveilleref1_Parse.l0 k t178 0 0)) = some (r1, r2) := H
    have A3 := Aside0.mk A30
    clear A30
    by_cases c4 : t178.toList = ([] : List UInt8)
    · rw [if_pos c4] at H
      have c4b0 : (t178.toList == ([] : List UInt8)) = true := beq_iff_eq.mpr c4
      have c4b1 : (t178.toList != ([] : List UInt8)) = false := bne_eq_false_iff_eq.mpr c4
      clear c4
      simp only [Option.some.injEq, Prod.mk.injEq] at H
      obtain ⟨rfl, rfl⟩ := H
      go_enter Tryd.func10, Tryd.ntmps10
      go_wp2_with (first | ((with_reducible refine gate_callee (f := 19) rfl ?_); refine goesL_ (some 16) rfl rfl Tryd.func19 (by kernel_rfl) rfl #[.string a0] rfl (by (try simp only [List.map_toArray, List.map_cons, List.map_nil]); first | done | rfl | (simp only [List.length_drop, List.length_take]; rfl)) ?_; (with_reducible refine (reveilleref1_trimmed.calls k a0 t178 _ A3.out).mono ?_); rintro e w' ⟨rfl, ⟨nd, rfl⟩⟩; refine ⟨_, rfl, ?_⟩))
      go_ret2
      exact ⟨by first | rfl | (simp [errW_none, errW_some] <;> rfl) | (simp [*, errW_none, errW_some] <;> rfl), by repeat (first | (with_reducible first | exact HB.out | apply below_alloc | apply pw_below_drewN | apply below_drew1) | exact HB.out)⟩
    · rw [if_neg c4] at H
      have c4b0 : (t178.toList == ([] : List UInt8)) = false := beq_eq_false_iff_ne.mpr c4
      have c4b1 : (t178.toList != ([] : List UInt8)) = true := bne_iff_ne.mpr c4
      have H' := Aside0.mk H
      clear H
      go_enter Tryd.func10, Tryd.ntmps10
      go_wp2_with (first | ((with_reducible refine gate_callee (f := 19) rfl ?_); refine goesL_ (some 16) rfl rfl Tryd.func19 (by kernel_rfl) rfl #[.string a0] rfl (by (try simp only [List.map_toArray, List.map_cons, List.map_nil]); first | done | rfl | (simp only [List.length_drop, List.length_take]; rfl)) ?_; (with_reducible refine (reveilleref1_trimmed.calls k a0 t178 _ A3.out).mono ?_); rintro e w' ⟨rfl, ⟨nd, rfl⟩⟩; refine ⟨_, rfl, ?_⟩))
      go_loopg [4, 5] k (fun kq v4 v5 w' => ∃ (x4_1 : Int) (x5_1 : Int), v4 = .int .i64 x4_1 ∧ v5 = .int .i64 x5_1 ∧ Aside0 (reveilleref1_Parse.l0 kq t178 x4_1 x5_1 = some (r1, r2)) ∧ Aside0 (kq ≤ k) ∧ Aside0 (Below w.heap.size w w'))
      case atStart => exact ⟨(0), (0), (by first | rfl | (simp; done) | (simp [*]; done)), (by first | rfl | (simp; done) | (simp [*]; done)), H', ⟨Nat.le_refl _⟩, ⟨by repeat (first | (with_reducible first | exact HB.out | apply below_alloc | apply pw_below_drewN | apply below_drew1) | exact HB.out)⟩⟩
      case round =>
        clear H'
        try clear c1
        try clear c2
        try clear c2b0
        try clear c2b1
        try clear p2
        try clear c4
        try clear c4b0
        try clear c4b1
        obtain ⟨x4_1, x5_1, rfl, rfl, HA, HK1, HB⟩ := hrel
        cases gk with
        | zero => exact absurd HA.out (by simp [reveilleref1_Parse.l0])
        | succ k1 =>
          have H := HA.out
          clear HA
          simp only [reveilleref1_Parse.l0] at H
          by_cases c5 : x5_1 < (t178.size : Int)
          · rw [if_pos c5] at H
            have c5b0 : decide (x5_1 < (t178.size : Int)) = true := decide_eq_true c5
            clear c5
            have H' := Aside0.mk H
            clear H
            go_wp2
            go_loopg [5, 6, 7] k1 (fun kq v5 v6 v7 w' => ∃ (x5_2 : Int) (x6_2 : Int) (x7_2 : Int), v5 = .int .i64 x5_2 ∧ v6 = .int .u64 x6_2 ∧ v7 = .int .i64 x7_2 ∧ Aside0 (reveilleref1_Parse.l1 kq t178 x4_1 x5_2 x6_2 x7_2 = some (r1, r2)) ∧ Aside0 (kq ≤ k1) ∧ Aside0 (Below w.heap.size w w'))
            case atStart => exact ⟨(x5_1), (0), (0), (by first | rfl | (simp; done) | (simp [*]; done)), (by first | rfl | (simp; done) | (simp [*]; done)), (by first | rfl | (simp; done) | (simp [*]; done)), H', ⟨Nat.le_refl _⟩, ⟨by repeat (first | (with_reducible first | exact HB.out | apply below_alloc | apply pw_below_drewN | apply below_drew1) | exact HB.out)⟩⟩
            case round =>
              clear H'
              try clear c1
              try clear c2
              try clear c2b0
              try clear c2b1
              try clear p2
              try clear c4
              try clear c4b0
              try clear c4b1
              try clear c5
              try clear c5b0
              try clear p2
              obtain ⟨x5_2, x6_2, x7_2, rfl, rfl, rfl, HA, HK2, HB⟩ := hrel
              cases gk with
              | zero => exact absurd HA.out (by simp [reveilleref1_Parse.l1])
              | succ k2 =>
                have H := HA.out
                clear HA
                simp only [reveilleref1_Parse.l1] at H
                have HC6 := Aside0.mk H
                clear H
                go_upto_region 10 with (fail)
                go_cut [32] (fun v32 wc => ∃ (kq : Nat) (x32_5 : Bool), v32 = .bool x32_5 ∧ Aside0 (reveilleref1_Parse.j2 kq t178 x4_1 x5_2 x6_2 x7_2 x32_5 = some (r1, r2)) ∧ Aside0 (kq ≤ k2) ∧ Aside0 (Below w.heap.size w wc))
                case first =>
                  have H := HC6.out
                  clear HC6
                  by_cases c7 : x5_2 < (t178.size : Int)
                  · rw [if_pos c7] at H
                    have c7b0 : decide (x5_2 < (t178.size : Int)) = true := decide_eq_true c7
                    clear c7
                    (first | rw [c7b0] | (simp only [i64_w, i32_w]; rw [c7b0]) | skip)
                    by_cases c8 : 0 ≤ x5_2
                    · rw [if_pos c8] at H
                      have c8b0 : decide (0 ≤ x5_2) = true := decide_eq_true c8
                      clear c8
                      replace H := Option.bind_eq_some_iff.mp H
                      obtain ⟨t179, A100, H⟩ := H
                      replace H : (reveilleref1_Parse.j2 k2 t178 x4_1 x5_2 x6_2 x7_2 t179) = some (r1, r2) := H
                      have A10 := Aside0.mk A100
                      clear A100
                      have H' := Aside0.mk H
                      clear H
                      have p9 : 0 ≤ (x5_2 : Int) := of_decide_eq_true (by first | (with_reducible assumption) | assumption)
                      have q9 : x5_2 < (t178.size : Int) := of_decide_eq_true (by first | (with_reducible assumption) | assumption)
                      have hx9 := bt_at t178 x5_2
                      replace p9 := eq_true p9
                      replace q9 := eq_true q9
                      go_wp2_with (first | (go_at_call 20; (with_reducible refine (reveilleref1_digit.calls (bt t178 x5_2) t179 _ A10.out).mono ?_); rintro e w' ⟨rfl, ⟨nd, rfl⟩⟩))
                      go_meet
                      case rel => exact ⟨_, (t179), (by first | rfl | (simp; done) | (simp [*]; done)), H', ⟨by have := HK1.out; have := HK2.out; first | omega | exact Nat.le_refl _⟩, ⟨by repeat (first | (with_reducible first | exact HB.out | apply below_alloc | apply pw_below_drewN | apply below_drew1) | exact HB.out)⟩⟩
                    · rw [if_neg c8] at H
                      exact absurd H (by simp)
                  · rw [if_neg c7] at H
                    have c7b0 : decide (x5_2 < (t178.size : Int)) = false := decide_eq_false c7
                    clear c7
                    (first | rw [c7b0] | (simp only [i64_w, i32_w]; rw [c7b0]) | skip)
                    have H' := Aside0.mk H
                    clear H
                    go_wp2
                    go_meet
                    case rel => exact ⟨_, (false), (by first | rfl | (simp; done) | (simp [*]; done)), H', ⟨by have := HK1.out; have := HK2.out; first | omega | exact Nat.le_refl _⟩, ⟨by repeat (first | (with_reducible first | exact HB.out | apply below_alloc | apply pw_below_drewN | apply below_drew1) | exact HB.out)⟩⟩
                case rest =>
                  clear HC6
                  try clear c1
                  try clear c2
                  try clear c2b0
                  try clear c2b1
                  try clear p2
                  try clear c4
                  try clear c4b0
                  try clear c4b1
                  try clear c5
                  try clear c5b0
                  try clear c7
                  try clear c7b0
                  try clear c8
                  try clear c8b0
                  try clear p9
                  try clear q9
                  try clear hx9
                  try clear c10
                  try clear p2
                  try clear p9
                  try clear q9
                  obtain ⟨kq, x32_5, rfl, HA, HJ5, HB⟩ := hcut
                  cases kq with
                  | zero => exact absurd HA.out (by simp [reveilleref1_Parse.j2])
                  | succ kj5 =>
                    have H := HA.out
                    clear HA
                    simp only [reveilleref1_Parse.j2] at H
                    by_cases c11 : x32_5 = true
                    · subst c11
                      have H1 : (if x7_2 = 18 then (some (0, 10)) else (if 0 ≤ x5_2 then (if x5_2 < (t178.size : Int) then (reveilleref1_Parse.l1 kj5 t178 x4_1 (wrap64 (x5_2 + 1)) (IntKind.u64.wrap ((IntKind.u64.wrap (10 * x6_2)) + (((bt t178 x5_2) - 48) % 256))) (wrap64 (x7_2 + 1))) else (none)) else (none))) = some (r1, r2) := by rw [if_pos rfl] at H; exact H
                      clear H
                      have H := H1
                      clear H1
                      by_cases c12 : x7_2 = 18
                      · rw [if_pos c12] at H
                        have c12b0 : (x7_2 == 18) = true := beq_iff_eq.mpr c12
                        have c12b1 : (x7_2 != 18) = false := bne_eq_false_iff_eq.mpr c12
                        clear c12
                        simp only [Option.some.injEq, Prod.mk.injEq] at H
                        obtain ⟨rfl, rfl⟩ := H
                        go_wp2
                        go_ret2
                        exact ⟨by first | rfl | (simp [errW_none, errW_some] <;> rfl) | (simp [*, errW_none, errW_some] <;> rfl), by repeat (first | (with_reducible first | exact HB.out | apply below_alloc | apply pw_below_drewN | apply below_drew1) | exact HB.out)⟩
                      · rw [if_neg c12] at H
                        have c12b0 : (x7_2 == 18) = false := beq_eq_false_iff_ne.mpr c12
                        have c12b1 : (x7_2 != 18) = true := bne_iff_ne.mpr c12
                        by_cases c13 : 0 ≤ x5_2
                        · rw [if_pos c13] at H
                          have c13b0 : decide (0 ≤ x5_2) = true := decide_eq_true c13
                          clear c13
                          by_cases c14 : x5_2 < (t178.size : Int)
                          · rw [if_pos c14] at H
                            have c14b0 : decide (x5_2 < (t178.size : Int)) = true := decide_eq_true c14
                            clear c14
                            have H' := Aside0.mk H
                            clear H
                            have p15 : 0 ≤ (x5_2 : Int) := of_decide_eq_true (by first | (with_reducible assumption) | assumption)
                            have q15 : x5_2 < (t178.size : Int) := of_decide_eq_true (by first | (with_reducible assumption) | assumption)
                            have hx15 := bt_at t178 x5_2
                            replace p15 := eq_true p15
                            replace q15 := eq_true q15
                            go_wp2
                            go_roundg kj5
                            case measure => have := HK1.out; have := HK2.out; have := HJ5.out; omega
                            case rel => exact ⟨(wrap64 (x5_2 + 1)), (IntKind.u64.wrap ((IntKind.u64.wrap (10 * x6_2)) + (((bt t178 x5_2) - 48) % 256))), (wrap64 (x7_2 + 1)), (by first | rfl | (simp; done) | (simp [*]; done)), (by first | rfl | (simp; done) | (simp [*]; done)), (by first | rfl | (simp; done) | (simp [*]; done)), H', ⟨by have := HK1.out; have := HK2.out; have := HJ5.out; omega⟩, ⟨by repeat (first | (with_reducible first | exact HB.out | apply below_alloc | apply pw_below_drewN | apply below_drew1) | exact HB.out)⟩⟩
                          · rw [if_neg c14] at H
                            exact absurd H (by simp)
                        · rw [if_neg c13] at H
                          exact absurd H (by simp)
                    · replace c11 := Bool.eq_false_iff.mpr c11
                      subst c11
                      have H1 : (if x7_2 = 0 then (some (0, 10)) else ((reveilleref1_blanks.f kj5 t178 x5_2).bind fun t180 => (if 0 ≤ t180 then (if t180 ≤ (t178.size : Int) then ((reveilleref1_unit.f (t178.extract (t180 : Int).toNat t178.size)).bind fun bt181 => (if bt181.2 = 0 then (reveilleref1_Parse.j3 kj5 t178 x4_1 t180 x6_2 bt181.1 bt181.2 (decide (t180 < (t178.size : Int)))) else (reveilleref1_Parse.j3 kj5 t178 x4_1 t180 x6_2 bt181.1 bt181.2 false))) else (none)) else (none)))) = some (r1, r2) := by rw [if_neg (show ¬ (false = true) by decide)] at H; exact H
                      clear H
                      have H := H1
                      clear H1
                      by_cases c16 : x7_2 = 0
                      · rw [if_pos c16] at H
                        have c16b0 : (x7_2 == 0) = true := beq_iff_eq.mpr c16
                        have c16b1 : (x7_2 != 0) = false := bne_eq_false_iff_eq.mpr c16
                        clear c16
                        simp only [Option.some.injEq, Prod.mk.injEq] at H
                        obtain ⟨rfl, rfl⟩ := H
                        go_wp2
                        go_ret2
                        exact ⟨by first | rfl | (simp [errW_none, errW_some] <;> rfl) | (simp [*, errW_none, errW_some] <;> rfl), by repeat (first | (with_reducible first | exact HB.out | apply below_alloc | apply pw_below_drewN | apply below_drew1) | exact HB.out)⟩
                      · rw [if_neg c16] at H
                        have c16b0 : (x7_2 == 0) = false := beq_eq_false_iff_ne.mpr c16
                        have c16b1 : (x7_2 != 0) = true := bne_iff_ne.mpr c16
                        replace H := Option.bind_eq_some_iff.mp H
                        obtain ⟨t180, A170, H⟩ := H
                        replace H : (if 0 ≤ t180 then (if t180 ≤ (t178.size : Int) then ((reveilleref1_unit.f (t178.extract (t180 : Int).toNat t178.size)).bind fun bt181 => (if bt181.2 = 0 then (reveilleref1_Parse.j3 kj5 t178 x4_1 t180 x6_2 bt181.1 bt181.2 (decide (t180 < (t178.size : Int)))) else (reveilleref1_Parse.j3 kj5 t178 x4_1 t180 x6_2 bt181.1 bt181.2 false))) else (none)) else (none)) = some (r1, r2) := H
                        have A17 := Aside0.mk A170
                        clear A170
                        by_cases c18 : 0 ≤ t180
                        · rw [if_pos c18] at H
                          have c18b0 := eq_true c18
                          have c18b1 : decide (0 ≤ t180) = true := decide_eq_true c18
                          clear c18
                          by_cases c19 : t180 ≤ (t178.size : Int)
                          · rw [if_pos c19] at H
                            have c19b0 := eq_true c19
                            have c19b1 : decide (t180 ≤ (t178.size : Int)) = true := decide_eq_true c19
                            clear c19
                            replace H := Option.bind_eq_some_iff.mp H
                            obtain ⟨⟨t181, t182⟩, A200, H⟩ := H
                            replace H : (if t182 = 0 then (reveilleref1_Parse.j3 kj5 t178 x4_1 t180 x6_2 t181 t182 (decide (t180 < (t178.size : Int)))) else (reveilleref1_Parse.j3 kj5 t178 x4_1 t180 x6_2 t181 t182 false)) = some (r1, r2) := H
                            have A20 := Aside0.mk A200
                            clear A200
                            have HC21 := Aside0.mk H
                            clear H
                            go_upto_region 20 with (first | ((with_reducible refine gate_callee (f := 21) rfl ?_); refine goesL_ (some 51) rfl rfl Tryd.func21 (by kernel_rfl) rfl #[.string t178, .int .i64 x5_2] rfl (by (try simp only [List.map_toArray, List.map_cons, List.map_nil]); first | done | rfl | (simp only [List.length_drop, List.length_take]; rfl)) ?_; (with_reducible refine (reveilleref1_blanks.calls kj5 t178 x5_2 t180 _ A17.out).mono ?_); rintro e w' ⟨rfl, ⟨nd, rfl⟩⟩; refine ⟨_, rfl, ?_⟩) | ((with_reducible refine gate_callee (f := 22) rfl ?_); refine goesL_ (some 56) rfl rfl Tryd.func22 (by kernel_rfl) rfl #[.string (t178.extract (t180 : Int).toNat t178.size)] rfl (by (try simp only [List.map_toArray, List.map_cons, List.map_nil]); first | done | rfl | (simp only [List.length_drop, List.length_take]; rfl)) ?_; (with_reducible refine (reveilleref1_unit.calls (t178.extract (t180 : Int).toNat t178.size) t181 t182 _ A20.out).mono ?_); rintro e w22 ⟨rfl, hb⟩; refine ⟨_, rfl, ?_⟩; have n0_ := Aside0.mk (below_step (by repeat (first | (with_reducible first | exact HB.out | apply below_alloc | apply pw_below_drewN | apply below_drew1) | exact HB.out)) hb); clear HB; have HB := n0_; clear n0_; (try clear hb); (try clear hb2); (try clear hk); (try clear hi)))
                            (try simp only [Act.put, List.setIfInBounds_toArray, List.set_cons_zero, List.set_cons_succ])
                            go_cut [66] (fun v66 wc => ∃ (kq : Nat) (x66_20 : Bool), v66 = .bool x66_20 ∧ Aside0 (reveilleref1_Parse.j3 kq t178 x4_1 t180 x6_2 t181 t182 x66_20 = some (r1, r2)) ∧ Aside0 (kq ≤ kj5) ∧ Aside0 (Below w.heap.size w wc))
                            case first =>
                              have H := HC21.out
                              clear HC21
                              by_cases c23 : t182 = 0
                              · rw [if_pos c23] at H
                                have c23b0 : (t182 == 0) = true := beq_iff_eq.mpr c23
                                have c23b1 : (t182 != 0) = false := bne_eq_false_iff_eq.mpr c23
                                clear c23
                                (first | rw [c23b0] | (simp only [i64_w, i32_w]; rw [c23b0]) | skip)
                                have H' := Aside0.mk H
                                clear H
                                go_wp2
                                go_meet
                                case rel => exact ⟨_, (decide (t180 < (t178.size : Int))), (by first | rfl | (simp; done) | (simp [*]; done)), H', ⟨by have := HK1.out; have := HK2.out; have := HJ5.out; first | omega | exact Nat.le_refl _⟩, ⟨by repeat (first | (with_reducible first | exact HB.out | apply below_alloc | apply pw_below_drewN | apply below_drew1) | exact HB.out)⟩⟩
                              · rw [if_neg c23] at H
                                have c23b0 : (t182 == 0) = false := beq_eq_false_iff_ne.mpr c23
                                have c23b1 : (t182 != 0) = true := bne_iff_ne.mpr c23
                                (first | rw [c23b0] | (simp only [i64_w, i32_w]; rw [c23b0]) | skip)
                                have H' := Aside0.mk H
                                clear H
                                go_wp2
                                go_meet
                                case rel => exact ⟨_, (false), (by first | rfl | (simp; done) | (simp [*]; done)), H', ⟨by have := HK1.out; have := HK2.out; have := HJ5.out; first | omega | exact Nat.le_refl _⟩, ⟨by repeat (first | (with_reducible first | exact HB.out | apply below_alloc | apply pw_below_drewN | apply below_drew1) | exact HB.out)⟩⟩
                            case rest =>
                              clear HC21
                              try clear c1
                              try clear p1
                              try clear q1
                              try clear hx1
                              try clear c2
                              try clear c2b0
                              try clear c2b1
                              try clear p2
                              try clear c4
                              try clear c4b0
                              try clear c4b1
                              try clear c5
                              try clear c5b0
                              try clear p6
                              try clear c7
                              try clear c7b0
                              try clear c8
                              try clear c8b0
                              try clear p9
                              try clear q9
                              try clear hx9
                              try clear c10
                              try clear c11
                              try clear c12
                              try clear c12b0
                              try clear c12b1
                              try clear c13
                              try clear c13b0
                              try clear c14
                              try clear c14b0
                              try clear p15
                              try clear q15
                              try clear hx15
                              try clear c16
                              try clear c16b0
                              try clear c16b1
                              try clear c18
                              try clear c18b0
                              try clear c18b1
                              try clear c19
                              try clear c19b0
                              try clear c19b1
                              try clear c21
                              try clear c22
                              try clear c23
                              try clear c23b0
                              try clear c23b1
                              try clear p15
                              try clear p2
                              try clear p9
                              try clear q15
                              try clear q9
                              obtain ⟨kq, x66_20, rfl, HA, HJ20, HB⟩ := hcut
                              cases kq with
                              | zero => exact absurd HA.out (by simp [reveilleref1_Parse.j3])
                              | succ kj20 =>
                                have H := HA.out
                                clear HA
                                simp only [reveilleref1_Parse.j3] at H
                                by_cases c24 : x66_20 = true
                                · subst c24
                                  have H1 : (some (0, 10)) = some (r1, r2) := by rw [if_pos rfl] at H; exact H
                                  clear H
                                  have H := H1
                                  clear H1
                                  simp only [Option.some.injEq, Prod.mk.injEq] at H
                                  obtain ⟨rfl, rfl⟩ := H
                                  go_wp2
                                  go_ret2
                                  exact ⟨by first | rfl | (simp [errW_none, errW_some] <;> rfl) | (simp [*, errW_none, errW_some] <;> rfl), by repeat (first | (with_reducible first | exact HB.out | apply below_alloc | apply pw_below_drewN | apply below_drew1) | exact HB.out)⟩
                                · replace c24 := Bool.eq_false_iff.mpr c24
                                  subst c24
                                  have H1 : ((reveilleref1_blanks.f kj20 t178 (wrap64 (t180 + t182))).bind fun t183 => ((bits_Mul64.f x6_2 (IntKind.u64.wrap (t181))).bind fun bt184 => (if bt184.1 = 0 then (if bt184.2 < 9223372036854775807 then ((reveilleref1_Add.f kj20 x4_1 (wrap64 (bt184.2))).bind fun t186 => (reveilleref1_Parse.l0 kj20 t178 t186 t183)) else ((reveilleref1_Add.f kj20 x4_1 9223372036854775807).bind fun t187 => (reveilleref1_Parse.l0 kj20 t178 t187 t183))) else ((reveilleref1_Add.f kj20 x4_1 9223372036854775807).bind fun t188 => (reveilleref1_Parse.l0 kj20 t178 t188 t183))))) = some (r1, r2) := by rw [if_neg (show ¬ (false = true) by decide)] at H; exact H
                                  clear H
                                  have H := H1
                                  clear H1
                                  replace H := Option.bind_eq_some_iff.mp H
                                  obtain ⟨t183, A250, H⟩ := H
                                  replace H : ((bits_Mul64.f x6_2 (IntKind.u64.wrap (t181))).bind fun bt184 => (if bt184.1 = 0 then (if bt184.2 < 9223372036854775807 then ((reveilleref1_Add.f kj20 x4_1 (wrap64 (bt184.2))).bind fun t186 => (reveilleref1_Parse.l0 kj20 t178 t186 t183)) else ((reveilleref1_Add.f kj20 x4_1 9223372036854775807).bind fun t187 => (reveilleref1_Parse.l0 kj20 t178 t187 t183))) else ((reveilleref1_Add.f kj20 x4_1 9223372036854775807).bind fun t188 => (reveilleref1_Parse.l0 kj20 t178 t188 t183)))) = some (r1, r2) := H
                                  have A25 := Aside0.mk A250
                                  clear A250
                                  replace H := Option.bind_eq_some_iff.mp H
                                  obtain ⟨⟨t184, t185⟩, A260, H⟩ := H
                                  replace H : (if t184 = 0 then (if t185 < 9223372036854775807 then ((reveilleref1_Add.f kj20 x4_1 (wrap64 (t185))).bind fun t186 => (reveilleref1_Parse.l0 kj20 t178 t186 t183)) else ((reveilleref1_Add.f kj20 x4_1 9223372036854775807).bind fun t187 => (reveilleref1_Parse.l0 kj20 t178 t187 t183))) else ((reveilleref1_Add.f kj20 x4_1 9223372036854775807).bind fun t188 => (reveilleref1_Parse.l0 kj20 t178 t188 t183))) = some (r1, r2) := H
                                  have A26 := Aside0.mk A260
                                  clear A260
                                  by_cases c27 : t184 = 0
                                  · rw [if_pos c27] at H
                                    have c27b0 : (t184 == 0) = true := beq_iff_eq.mpr c27
                                    have c27b1 : (t184 != 0) = false := bne_eq_false_iff_eq.mpr c27
                                    clear c27
                                    by_cases c28 : t185 < 9223372036854775807
                                    · rw [if_pos c28] at H
                                      have c28b0 : decide (t185 < 9223372036854775807) = true := decide_eq_true c28
                                      clear c28
                                      replace H := Option.bind_eq_some_iff.mp H
                                      obtain ⟨t186, A290, H⟩ := H
                                      replace H : (reveilleref1_Parse.l0 kj20 t178 t186 t183) = some (r1, r2) := H
                                      have A29 := Aside0.mk A290
                                      clear A290
                                      have H' := Aside0.mk H
                                      clear H
                                      go_wp2_with (first | ((with_reducible refine gate_callee (f := 21) rfl ?_); refine goesL_ (some 71) rfl rfl Tryd.func21 (by kernel_rfl) rfl #[.string t178, .int .i64 (wrap64 (t180 + t182))] rfl (by (try simp only [List.map_toArray, List.map_cons, List.map_nil]); first | done | rfl | (simp only [List.length_drop, List.length_take]; rfl)) ?_; (with_reducible refine (reveilleref1_blanks.calls kj20 t178 (wrap64 (t180 + t182)) t183 _ A25.out).mono ?_); rintro e w' ⟨rfl, ⟨nd, rfl⟩⟩; refine ⟨_, rfl, ?_⟩) | ((with_reducible refine gate_callee (f := 23) rfl ?_); refine goesL_ (some 76) rfl rfl Tryd.func23 (by kernel_rfl) rfl #[.int .u64 x6_2, .int .u64 (IntKind.u64.wrap (t181))] rfl (by (try simp only [List.map_toArray, List.map_cons, List.map_nil]); first | done | rfl | (simp only [List.length_drop, List.length_take]; rfl)) ?_; (with_reducible refine (bits_Mul64.calls x6_2 (IntKind.u64.wrap (t181)) t184 t185 _ A26.out).mono ?_); rintro e w' ⟨rfl, ⟨nd, rfl⟩⟩; refine ⟨_, rfl, ?_⟩) | ((with_reducible refine gate_callee (f := 24) rfl ?_); refine goesL_ (some 89) rfl rfl Tryd.func24 (by kernel_rfl) rfl #[.int .i64 x4_1, .int .i64 (wrap64 (t185))] rfl (by (try simp only [List.map_toArray, List.map_cons, List.map_nil]); first | done | rfl | (simp only [List.length_drop, List.length_take]; rfl)) ?_; (with_reducible refine (reveilleref1_Add.calls kj20 x4_1 (wrap64 (t185)) t186 _ A29.out).mono ?_); rintro e w' ⟨rfl, ⟨nd, rfl⟩⟩; refine ⟨_, rfl, ?_⟩))
                                      go_roundg kj20
                                      case measure => have := HK1.out; have := HK2.out; have := HJ5.out; have := HJ20.out; omega
                                      case rel => exact ⟨(t186), (t183), (by first | rfl | (simp; done) | (simp [*]; done)), (by first | rfl | (simp; done) | (simp [*]; done)), H', ⟨by have := HK1.out; have := HK2.out; have := HJ5.out; have := HJ20.out; omega⟩, ⟨by repeat (first | (with_reducible first | exact HB.out | apply below_alloc | apply pw_below_drewN | apply below_drew1) | exact HB.out)⟩⟩
                                    · rw [if_neg c28] at H
                                      have c28b0 : decide (t185 < 9223372036854775807) = false := decide_eq_false c28
                                      clear c28
                                      replace H := Option.bind_eq_some_iff.mp H
                                      obtain ⟨t187, A300, H⟩ := H
                                      replace H : (reveilleref1_Parse.l0 kj20 t178 t187 t183) = some (r1, r2) := H
                                      have A30 := Aside0.mk A300
                                      clear A300
                                      have H' := Aside0.mk H
                                      clear H
                                      go_wp2_with (first | ((with_reducible refine gate_callee (f := 21) rfl ?_); refine goesL_ (some 71) rfl rfl Tryd.func21 (by kernel_rfl) rfl #[.string t178, .int .i64 (wrap64 (t180 + t182))] rfl (by (try simp only [List.map_toArray, List.map_cons, List.map_nil]); first | done | rfl | (simp only [List.length_drop, List.length_take]; rfl)) ?_; (with_reducible refine (reveilleref1_blanks.calls kj20 t178 (wrap64 (t180 + t182)) t183 _ A25.out).mono ?_); rintro e w' ⟨rfl, ⟨nd, rfl⟩⟩; refine ⟨_, rfl, ?_⟩) | ((with_reducible refine gate_callee (f := 23) rfl ?_); refine goesL_ (some 76) rfl rfl Tryd.func23 (by kernel_rfl) rfl #[.int .u64 x6_2, .int .u64 (IntKind.u64.wrap (t181))] rfl (by (try simp only [List.map_toArray, List.map_cons, List.map_nil]); first | done | rfl | (simp only [List.length_drop, List.length_take]; rfl)) ?_; (with_reducible refine (bits_Mul64.calls x6_2 (IntKind.u64.wrap (t181)) t184 t185 _ A26.out).mono ?_); rintro e w' ⟨rfl, ⟨nd, rfl⟩⟩; refine ⟨_, rfl, ?_⟩) | ((with_reducible refine gate_callee (f := 24) rfl ?_); refine goesL_ (some 89) rfl rfl Tryd.func24 (by kernel_rfl) rfl #[.int .i64 x4_1, .int .i64 9223372036854775807] rfl (by (try simp only [List.map_toArray, List.map_cons, List.map_nil]); first | done | rfl | (simp only [List.length_drop, List.length_take]; rfl)) ?_; (with_reducible refine (reveilleref1_Add.calls kj20 x4_1 9223372036854775807 t187 _ A30.out).mono ?_); rintro e w' ⟨rfl, ⟨nd, rfl⟩⟩; refine ⟨_, rfl, ?_⟩))
                                      go_roundg kj20
                                      case measure => have := HK1.out; have := HK2.out; have := HJ5.out; have := HJ20.out; omega
                                      case rel => exact ⟨(t187), (t183), (by first | rfl | (simp; done) | (simp [*]; done)), (by first | rfl | (simp; done) | (simp [*]; done)), H', ⟨by have := HK1.out; have := HK2.out; have := HJ5.out; have := HJ20.out; omega⟩, ⟨by repeat (first | (with_reducible first | exact HB.out | apply below_alloc | apply pw_below_drewN | apply below_drew1) | exact HB.out)⟩⟩
                                  · rw [if_neg c27] at H
                                    have c27b0 : (t184 == 0) = false := beq_eq_false_iff_ne.mpr c27
                                    have c27b1 : (t184 != 0) = true := bne_iff_ne.mpr c27
                                    replace H := Option.bind_eq_some_iff.mp H
                                    obtain ⟨t188, A310, H⟩ := H
                                    replace H : (reveilleref1_Parse.l0 kj20 t178 t188 t183) = some (r1, r2) := H
                                    have A31 := Aside0.mk A310
                                    clear A310
                                    have H' := Aside0.mk H
                                    clear H
                                    go_wp2_with (first | ((with_reducible refine gate_callee (f := 21) rfl ?_); refine goesL_ (some 71) rfl rfl Tryd.func21 (by kernel_rfl) rfl #[.string t178, .int .i64 (wrap64 (t180 + t182))] rfl (by (try simp only [List.map_toArray, List.map_cons, List.map_nil]); first | done | rfl | (simp only [List.length_drop, List.length_take]; rfl)) ?_; (with_reducible refine (reveilleref1_blanks.calls kj20 t178 (wrap64 (t180 + t182)) t183 _ A25.out).mono ?_); rintro e w' ⟨rfl, ⟨nd, rfl⟩⟩; refine ⟨_, rfl, ?_⟩) | ((with_reducible refine gate_callee (f := 23) rfl ?_); refine goesL_ (some 76) rfl rfl Tryd.func23 (by kernel_rfl) rfl #[.int .u64 x6_2, .int .u64 (IntKind.u64.wrap (t181))] rfl (by (try simp only [List.map_toArray, List.map_cons, List.map_nil]); first | done | rfl | (simp only [List.length_drop, List.length_take]; rfl)) ?_; (with_reducible refine (bits_Mul64.calls x6_2 (IntKind.u64.wrap (t181)) t184 t185 _ A26.out).mono ?_); rintro e w' ⟨rfl, ⟨nd, rfl⟩⟩; refine ⟨_, rfl, ?_⟩) | ((with_reducible refine gate_callee (f := 24) rfl ?_); refine goesL_ (some 89) rfl rfl Tryd.func24 (by kernel_rfl) rfl #[.int .i64 x4_1, .int .i64 9223372036854775807] rfl (by (try simp only [List.map_toArray, List.map_cons, List.map_nil]); first | done | rfl | (simp only [List.length_drop, List.length_take]; rfl)) ?_; (with_reducible refine (reveilleref1_Add.calls kj20 x4_1 9223372036854775807 t188 _ A31.out).mono ?_); rintro e w' ⟨rfl, ⟨nd, rfl⟩⟩; refine ⟨_, rfl, ?_⟩))
                                    go_roundg kj20
                                    case measure => have := HK1.out; have := HK2.out; have := HJ5.out; have := HJ20.out; omega
                                    case rel => exact ⟨(t188), (t183), (by first | rfl | (simp; done) | (simp [*]; done)), (by first | rfl | (simp; done) | (simp [*]; done)), H', ⟨by have := HK1.out; have := HK2.out; have := HJ5.out; have := HJ20.out; omega⟩, ⟨by repeat (first | (with_reducible first | exact HB.out | apply below_alloc | apply pw_below_drewN | apply below_drew1) | exact HB.out)⟩⟩
                          · rw [if_neg c19] at H
                            exact absurd H (by simp)
                        · rw [if_neg c18] at H
                          exact absurd H (by simp)
          · rw [if_neg c5] at H
            have c5b0 : decide (x5_1 < (t178.size : Int)) = false := decide_eq_false c5
            clear c5
            simp only [Option.some.injEq, Prod.mk.injEq] at H
            obtain ⟨rfl, rfl⟩ := H
            go_wp2
            go_ret2
            exact ⟨by first | rfl | (simp [errW_none, errW_some] <;> rfl) | (simp [*, errW_none, errW_some] <;> rfl), by repeat (first | (with_reducible first | exact HB.out | apply below_alloc | apply pw_below_drewN | apply below_drew1) | exact HB.out)⟩
def reveillelaw1_SpanReads.f (k : Nat) (a0 : ByteArray) : Option (Bool) := (reveillelaw1_known.f).bind fun t189 => (if t189 = true then (if (a0.size : Int) > 2000 then (some true) else ((span_Parse.f k a0).bind fun bt190 => ((reveilleref1_Parse.f k a0).bind fun bt192 => (if bt190.1 = bt192.1 then (some (bt190.2 == bt192.2)) else (some false))))) else (some false))
theorem reveillelaw1_SpanReads.mono : ∀ a0 k, LeO (reveillelaw1_SpanReads.f k a0) (reveillelaw1_SpanReads.f (k + 1) a0) := by
  intro a0 k
  unfold reveillelaw1_SpanReads.f
  repeat' first
      | (with_reducible exact reveilleref1_Parse.mono _ _)
      | (with_reducible exact span_Parse.mono _ _)
      | (with_reducible exact LeO.refl _)
      | (with_reducible exact LeO.none _)
      | (with_reducible refine LeO.ite ?_ ?_)
      | (with_reducible refine LeO.bind ?_ (fun _ => ?_))
      | exact reveilleref1_Parse.mono _ _
      | exact span_Parse.mono _ _
      | exact LeO.none _
      | refine LeO.ite ?_ ?_
      | refine LeO.bind ?_ (fun _ => ?_)
set_option maxHeartbeats 8000000 in
set_option maxRecDepth 100000 in
theorem reveillelaw1_SpanReads.calls (k : Nat) (a0 : ByteArray) (r : Bool) (w : World) (h : reveillelaw1_SpanReads.f k a0 = some r) (hG : GW w) :
    Calls Tryd.prog 3 #[.string a0] w fun e w' => e = .returned (.bool r) ∧ Below w.heap.size w w' := by
  have HG := Aside0.mk hG
  clear hG
  have HB := Aside0.mk (Below.refl w.heap.size w)
  have H : ((reveillelaw1_known.f).bind fun t189 => (if t189 = true then (if (a0.size : Int) > 2000 then (some true) else ((span_Parse.f k a0).bind fun bt190 => ((reveilleref1_Parse.f k a0).bind fun bt192 => (if bt190.1 = bt192.1 then (some (bt190.2 == bt192.2)) else (some false))))) else (some false))) = some r := h
  clear h
  replace H := Option.bind_eq_some_iff.mp H
  obtain ⟨t189, A20, H⟩ := H
  replace H : (if t189 = true then (if (a0.size : Int) > 2000 then (some true) else ((span_Parse.f k a0).bind fun bt190 => ((reveilleref1_Parse.f k a0).bind fun bt192 => (if bt190.1 = bt192.1 then (some (bt190.2 == bt192.2)) else (some false))))) else (some false)) = some r := H
  have A2 := Aside0.mk A20
  clear A20
  by_cases c3 : t189 = true
  · subst c3
    have H1 : (if (a0.size : Int) > 2000 then (some true) else ((span_Parse.f k a0).bind fun bt190 => ((reveilleref1_Parse.f k a0).bind fun bt192 => (if bt190.1 = bt192.1 then (some (bt190.2 == bt192.2)) else (some false))))) = some r := by rw [if_pos rfl] at H; exact H
    clear H
    have H := H1
    clear H1
    by_cases c4 : (a0.size : Int) > 2000
    · rw [if_pos c4] at H
      have c4b0 : decide (2000 < (a0.size : Int)) = true := decide_eq_true c4
      have c4b1 : decide (2000 < a0.size) = true := decide_eq_true (by omega)
      clear c4
      obtain rfl := Option.some.inj H
      go_enter Tryd.func3, Tryd.ntmps3
      go_wp2_with (first | ((with_reducible refine gate_callee (f := 8) rfl ?_); refine goesL_ (some 7) rfl rfl Tryd.func8 (by kernel_rfl) rfl #[] rfl (by (try simp only [List.map_toArray, List.map_cons, List.map_nil]); first | done | rfl | (simp only [List.length_drop, List.length_take]; rfl)) ?_; (with_reducible refine (reveillelaw1_known.calls  true _ A2.out (GW.below HG.out (by repeat (first | (with_reducible first | exact HB.out | apply below_alloc | apply pw_below_drewN | apply below_drew1) | exact HB.out)))).mono ?_); rintro e w5 ⟨rfl, hb⟩; refine ⟨_, rfl, ?_⟩; have n0_ := Aside0.mk (below_step (by repeat (first | (with_reducible first | exact HB.out | apply below_alloc | apply pw_below_drewN | apply below_drew1) | exact HB.out)) hb); clear HB; have HB := n0_; clear n0_; (try clear hb); (try clear hb2); (try clear hk); (try clear hi)))
      go_ret
      exact ⟨by first | rfl | (simp [errW_none, errW_some] <;> rfl) | (simp [*, errW_none, errW_some] <;> rfl), by repeat (first | (with_reducible first | exact HB.out | apply below_alloc | apply pw_below_drewN | apply below_drew1) | exact HB.out)⟩
    · rw [if_neg c4] at H
      have c4b0 : decide (2000 < (a0.size : Int)) = false := decide_eq_false c4
      have c4b1 : decide (2000 < a0.size) = false := decide_eq_false (by omega)
      clear c4
      replace H := Option.bind_eq_some_iff.mp H
      obtain ⟨⟨t190, t191⟩, A60, H⟩ := H
      replace H : ((reveilleref1_Parse.f k a0).bind fun bt192 => (if t190 = bt192.1 then (some (t191 == bt192.2)) else (some false))) = some r := H
      have A6 := Aside0.mk A60
      clear A60
      replace H := Option.bind_eq_some_iff.mp H
      obtain ⟨⟨t192, t193⟩, A70, H⟩ := H
      replace H : (if t190 = t192 then (some (t191 == t193)) else (some false)) = some r := H
      have A7 := Aside0.mk A70
      clear A70
      by_cases c8 : t190 = t192
      · rw [if_pos c8] at H
        have c8b0 : (t190 == t192) = true := beq_iff_eq.mpr c8
        have c8b1 : (t190 != t192) = false := bne_eq_false_iff_eq.mpr c8
        clear c8
        obtain rfl := Option.some.inj H
        go_enter Tryd.func3, Tryd.ntmps3
        go_wp2_with (first | ((with_reducible refine gate_callee (f := 8) rfl ?_); refine goesL_ (some 7) rfl rfl Tryd.func8 (by kernel_rfl) rfl #[] rfl (by (try simp only [List.map_toArray, List.map_cons, List.map_nil]); first | done | rfl | (simp only [List.length_drop, List.length_take]; rfl)) ?_; (with_reducible refine (reveillelaw1_known.calls  true _ A2.out (GW.below HG.out (by repeat (first | (with_reducible first | exact HB.out | apply below_alloc | apply pw_below_drewN | apply below_drew1) | exact HB.out)))).mono ?_); rintro e w9 ⟨rfl, hb⟩; refine ⟨_, rfl, ?_⟩; have n0_ := Aside0.mk (below_step (by repeat (first | (with_reducible first | exact HB.out | apply below_alloc | apply pw_below_drewN | apply below_drew1) | exact HB.out)) hb); clear HB; have HB := n0_; clear n0_; (try clear hb); (try clear hb2); (try clear hk); (try clear hi)) | ((with_reducible refine gate_callee (f := 9) rfl ?_); refine goesL_ (some 14) rfl rfl Tryd.func9 (by kernel_rfl) rfl #[.string a0] rfl (by (try simp only [List.map_toArray, List.map_cons, List.map_nil]); first | done | rfl | (simp only [List.length_drop, List.length_take]; rfl)) ?_; (with_reducible refine (span_Parse.calls k a0 t190 t191 _ A6.out).mono ?_); rintro e w10 ⟨rfl, hb⟩; refine ⟨_, rfl, ?_⟩; have n0_ := Aside0.mk (below_step (by repeat (first | (with_reducible first | exact HB.out | apply below_alloc | apply pw_below_drewN | apply below_drew1) | exact HB.out)) hb); clear HB; have HB := n0_; clear n0_; (try clear hb); (try clear hb2); (try clear hk); (try clear hi)) | ((with_reducible refine gate_callee (f := 10) rfl ?_); refine goesL_ (some 19) rfl rfl Tryd.func10 (by kernel_rfl) rfl #[.string a0] rfl (by (try simp only [List.map_toArray, List.map_cons, List.map_nil]); first | done | rfl | (simp only [List.length_drop, List.length_take]; rfl)) ?_; (with_reducible refine (reveilleref1_Parse.calls k a0 t192 t193 _ A7.out).mono ?_); rintro e w11 ⟨rfl, hb⟩; refine ⟨_, rfl, ?_⟩; have n0_ := Aside0.mk (below_step (by repeat (first | (with_reducible first | exact HB.out | apply below_alloc | apply pw_below_drewN | apply below_drew1) | exact HB.out)) hb); clear HB; have HB := n0_; clear n0_; (try clear hb); (try clear hb2); (try clear hk); (try clear hi)))
        go_ret
        exact ⟨by first | rfl | (simp [errW_none, errW_some] <;> rfl) | (simp [*, errW_none, errW_some] <;> rfl), by repeat (first | (with_reducible first | exact HB.out | apply below_alloc | apply pw_below_drewN | apply below_drew1) | exact HB.out)⟩
      · rw [if_neg c8] at H
        have c8b0 : (t190 == t192) = false := beq_eq_false_iff_ne.mpr c8
        have c8b1 : (t190 != t192) = true := bne_iff_ne.mpr c8
        obtain rfl := Option.some.inj H
        go_enter Tryd.func3, Tryd.ntmps3
        go_wp2_with (first | ((with_reducible refine gate_callee (f := 8) rfl ?_); refine goesL_ (some 7) rfl rfl Tryd.func8 (by kernel_rfl) rfl #[] rfl (by (try simp only [List.map_toArray, List.map_cons, List.map_nil]); first | done | rfl | (simp only [List.length_drop, List.length_take]; rfl)) ?_; (with_reducible refine (reveillelaw1_known.calls  true _ A2.out (GW.below HG.out (by repeat (first | (with_reducible first | exact HB.out | apply below_alloc | apply pw_below_drewN | apply below_drew1) | exact HB.out)))).mono ?_); rintro e w12 ⟨rfl, hb⟩; refine ⟨_, rfl, ?_⟩; have n0_ := Aside0.mk (below_step (by repeat (first | (with_reducible first | exact HB.out | apply below_alloc | apply pw_below_drewN | apply below_drew1) | exact HB.out)) hb); clear HB; have HB := n0_; clear n0_; (try clear hb); (try clear hb2); (try clear hk); (try clear hi)) | ((with_reducible refine gate_callee (f := 9) rfl ?_); refine goesL_ (some 14) rfl rfl Tryd.func9 (by kernel_rfl) rfl #[.string a0] rfl (by (try simp only [List.map_toArray, List.map_cons, List.map_nil]); first | done | rfl | (simp only [List.length_drop, List.length_take]; rfl)) ?_; (with_reducible refine (span_Parse.calls k a0 t190 t191 _ A6.out).mono ?_); rintro e w13 ⟨rfl, hb⟩; refine ⟨_, rfl, ?_⟩; have n0_ := Aside0.mk (below_step (by repeat (first | (with_reducible first | exact HB.out | apply below_alloc | apply pw_below_drewN | apply below_drew1) | exact HB.out)) hb); clear HB; have HB := n0_; clear n0_; (try clear hb); (try clear hb2); (try clear hk); (try clear hi)) | ((with_reducible refine gate_callee (f := 10) rfl ?_); refine goesL_ (some 19) rfl rfl Tryd.func10 (by kernel_rfl) rfl #[.string a0] rfl (by (try simp only [List.map_toArray, List.map_cons, List.map_nil]); first | done | rfl | (simp only [List.length_drop, List.length_take]; rfl)) ?_; (with_reducible refine (reveilleref1_Parse.calls k a0 t192 t193 _ A7.out).mono ?_); rintro e w14 ⟨rfl, hb⟩; refine ⟨_, rfl, ?_⟩; have n0_ := Aside0.mk (below_step (by repeat (first | (with_reducible first | exact HB.out | apply below_alloc | apply pw_below_drewN | apply below_drew1) | exact HB.out)) hb); clear HB; have HB := n0_; clear n0_; (try clear hb); (try clear hb2); (try clear hk); (try clear hi)))
        go_ret
        exact ⟨by first | rfl | (simp [errW_none, errW_some] <;> rfl) | (simp [*, errW_none, errW_some] <;> rfl), by repeat (first | (with_reducible first | exact HB.out | apply below_alloc | apply pw_below_drewN | apply below_drew1) | exact HB.out)⟩
  · replace c3 := Bool.eq_false_iff.mpr c3
    subst c3
    have H1 : (some false) = some r := by rw [if_neg (show ¬ (false = true) by decide)] at H; exact H
    clear H
    have H := H1
    clear H1
    obtain rfl := Option.some.inj H
    go_enter Tryd.func3, Tryd.ntmps3
    go_wp2_with (first | ((with_reducible refine gate_callee (f := 8) rfl ?_); refine goesL_ (some 7) rfl rfl Tryd.func8 (by kernel_rfl) rfl #[] rfl (by (try simp only [List.map_toArray, List.map_cons, List.map_nil]); first | done | rfl | (simp only [List.length_drop, List.length_take]; rfl)) ?_; (with_reducible refine (reveillelaw1_known.calls  false _ A2.out (GW.below HG.out (by repeat (first | (with_reducible first | exact HB.out | apply below_alloc | apply pw_below_drewN | apply below_drew1) | exact HB.out)))).mono ?_); rintro e w15 ⟨rfl, hb⟩; refine ⟨_, rfl, ?_⟩; have n0_ := Aside0.mk (below_step (by repeat (first | (with_reducible first | exact HB.out | apply below_alloc | apply pw_below_drewN | apply below_drew1) | exact HB.out)) hb); clear HB; have HB := n0_; clear n0_; (try clear hb); (try clear hb2); (try clear hk); (try clear hi)))
    go_ret
    exact ⟨by first | rfl | (simp [errW_none, errW_some] <;> rfl) | (simp [*, errW_none, errW_some] <;> rfl), by repeat (first | (with_reducible first | exact HB.out | apply below_alloc | apply pw_below_drewN | apply below_drew1) | exact HB.out)⟩
end Go.Proofs.YtfpfdeechhaheaaDoor.Reads
