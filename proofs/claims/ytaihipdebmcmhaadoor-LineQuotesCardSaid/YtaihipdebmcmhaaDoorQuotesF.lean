/- Out of the program's functions that the law reaches, part 0: what each computes, and that the machine computes it. -/
import Derived.Test.YtaihipdebmcmhaaDoorSplitsQ
namespace Go.Proofs.YtaihipdebmcmhaaDoor.Splits
open Go.RowKit Go.Proofs.YtaihipdebmcmhaaDoorW.PrintWords Go.Proofs.YtaihipdebmcmhaaDoorW.PrintLast
set_option linter.unusedVariables false
set_option linter.unusedSimpArgs false
/-! ### reveillehelp_Short: function 12 -/
def reveillehelp_Short.l0 : Nat → List ByteArray → Int → Int → Int → Option (Bool)
  | 0, _, _, _, _ => none
  | k + 1, x0, x1, x2, x7 => if x7 < (x0.length : Int) then (if 0 ≤ x7 then (if ((rdOf ByteArray.empty x0 x7).size : Int) > x2 then (some false) else (reveillehelp_Short.l0 k x0 x1 x2 (wrap64 (x7 + 1)))) else (none)) else (some (decide ((x0.length : Int) ≤ x1)))
def reveillehelp_Short.f (k : Nat) (l0 : List ByteArray) (a1 : Int) (a2 : Int) : Option (Bool) := reveillehelp_Short.l0 k l0 a1 a2 0
theorem reveillehelp_Short.mono_l : ∀ k, (∀ y0 y1 y2 y3, LeO (reveillehelp_Short.l0 k y0 y1 y2 y3) (reveillehelp_Short.l0 (k + 1) y0 y1 y2 y3))
  | 0 => fun _ _ _ _ r h => by simp [reveillehelp_Short.l0] at h
  | k + 1 => by
    have ih0 := reveillehelp_Short.mono_l k
    · intro y0 y1 y2 y3
      unfold reveillehelp_Short.l0
      repeat' first
      | (with_reducible exact ih0 _ _ _ _)
      | (with_reducible exact LeO.refl _)
      | (with_reducible exact LeO.none _)
      | (with_reducible refine LeO.ite ?_ ?_)
      | (with_reducible refine LeO.bind ?_ (fun _ => ?_))
      | exact ih0 _ _ _ _
      | exact LeO.none _
      | refine LeO.ite ?_ ?_
      | refine LeO.bind ?_ (fun _ => ?_)
theorem reveillehelp_Short.mono : ∀ a0 a1 a2 k, LeO (reveillehelp_Short.f k a0 a1 a2) (reveillehelp_Short.f (k + 1) a0 a1 a2) := by
  intro a0 a1 a2 k
  have ih0 := reveillehelp_Short.mono_l k
  unfold reveillehelp_Short.f
  repeat' first
      | (with_reducible exact ih0 _ _ _ _)
      | (with_reducible exact LeO.refl _)
      | (with_reducible exact LeO.none _)
      | (with_reducible refine LeO.ite ?_ ?_)
      | (with_reducible refine LeO.bind ?_ (fun _ => ?_))
      | exact ih0 _ _ _ _
      | exact LeO.none _
      | refine LeO.ite ?_ ?_
      | refine LeO.bind ?_ (fun _ => ?_)
set_option maxHeartbeats 8000000 in
set_option maxRecDepth 100000 in
theorem reveillehelp_Short.calls (k : Nat) (A0 : Option Addr) (c0 : Nat) (l0 : List ByteArray) (a1 : Int) (a2 : Int) (r : Bool) (w : World) (hr0 : Kd.C Kd.string w A0 l0.length l0) (hc0 : l0.length ≤ c0) (h : reveillehelp_Short.f k l0 a1 a2 = some r) :
    Calls Tryd.prog 12 #[.slice A0 l0.length c0, .int .i64 a1, .int .i64 a2] w fun e w' => e = .returned (.bool r) ∧ Drawn0 w w' := by
  have HR0 := Aside0.mk hr0
  have HC0 := Aside0.mk hc0
  clear hr0 hc0
  have H : (reveillehelp_Short.l0 k l0 a1 a2 0) = some r := h
  clear h
  have H' := Aside0.mk H
  clear H
  go_enter Tryd.func12, Tryd.ntmps12
  go_wp2
  go_loopg [7] k (fun kq v7 w' => ∃ (x7_1 : Int), v7 = .int .i64 x7_1 ∧ Aside0 (reveillehelp_Short.l0 kq l0 a1 a2 x7_1 = some r) ∧ Aside0 (kq ≤ k) ∧ Drawn0 w w')
  case atStart => exact ⟨(0), (by first | rfl | (simp; done) | (simp [*]; done)), H', ⟨Nat.le_refl _⟩, by repeat (first | exact Drawn0.refl _ | apply Drawn0.step)⟩
  case round =>
    clear H'
    try clear c1
    try clear p2
    obtain ⟨x7_1, rfl, HA, HK1, ⟨m1, rfl⟩⟩ := hrel
    cases gk with
    | zero => exact absurd HA.out (by simp [reveillehelp_Short.l0])
    | succ k1 =>
      have H := HA.out
      clear HA
      simp only [reveillehelp_Short.l0] at H
      by_cases c4 : x7_1 < (l0.length : Int)
      · rw [if_pos c4] at H
        have c4b0 : decide (x7_1 < (l0.length : Int)) = true := decide_eq_true c4
        clear c4
        by_cases c5 : 0 ≤ x7_1
        · rw [if_pos c5] at H
          have c5b0 : decide (0 ≤ x7_1) = true := decide_eq_true c5
          clear c5
          by_cases c6 : ((rdOf ByteArray.empty l0 x7_1).size : Int) > a2
          · rw [if_pos c6] at H
            have c6b0 : decide (a2 < ((rdOf ByteArray.empty l0 x7_1).size : Int)) = true := decide_eq_true c6
            clear c6
            obtain rfl := Option.some.inj H
            have p154 : 0 ≤ (x7_1 : Int) := of_decide_eq_true (by first | (with_reducible assumption) | assumption)
            have q154 : x7_1 < (l0.length : Int) := of_decide_eq_true (by first | (with_reducible assumption) | assumption)
            obtain ⟨ad154, e154, hx154_0⟩ := Kd.at_string HR0.out x7_1 p154 q154
            cases e154
            replace p154 := eq_true p154
            replace q154 := eq_true q154
            go_wp2
            go_ret
            exact ⟨by first | rfl | (simp; done) | (simp [*]; done), by repeat (first | exact Drawn0.refl _ | apply Drawn0.step)⟩
          · rw [if_neg c6] at H
            have c6b0 : decide (a2 < ((rdOf ByteArray.empty l0 x7_1).size : Int)) = false := decide_eq_false c6
            clear c6
            have H' := Aside0.mk H
            clear H
            have p154 : 0 ≤ (x7_1 : Int) := of_decide_eq_true (by first | (with_reducible assumption) | assumption)
            have q154 : x7_1 < (l0.length : Int) := of_decide_eq_true (by first | (with_reducible assumption) | assumption)
            obtain ⟨ad154, e154, hx154_0⟩ := Kd.at_string HR0.out x7_1 p154 q154
            cases e154
            replace p154 := eq_true p154
            replace q154 := eq_true q154
            go_wp2
            go_roundg k1
            case measure => have := HK1.out; omega
            case rel => exact ⟨(wrap64 (x7_1 + 1)), (by first | rfl | (simp; done) | (simp [*]; done)), H', ⟨by have := HK1.out; omega⟩, by repeat (first | exact Drawn0.refl _ | apply Drawn0.step)⟩
        · rw [if_neg c5] at H
          exact absurd H (by simp)
      · rw [if_neg c4] at H
        have c4b0 : decide (x7_1 < (l0.length : Int)) = false := decide_eq_false c4
        clear c4
        obtain rfl := Option.some.inj H
        go_wp2
        go_ret
        exact ⟨by first | rfl | (simp; done) | (simp [*]; done), by repeat (first | exact Drawn0.refl _ | apply Drawn0.step)⟩


/-! ### reveillelaw5_LineQuotes: function 8 -/
def reveillelaw5_LineQuotes.l0 : Nat → List ByteArray → ByteArray → Int → Option (Bool)
  | 0, _, _, _ => none
  | k + 1, x0, x3, x4 => if x4 < (x0.length : Int) then (if x3.size + 1 ≤ 9223372036854775807 then (if 0 ≤ x4 then ((line_Quote.f (rdOf ByteArray.empty x0 x4)).bind fun t164 => (if (x3 ++ (⟨#[32]⟩ : ByteArray)).size + t164.size ≤ 9223372036854775807 then (reveillelaw5_LineQuotes.l0 k x0 ((x3 ++ (⟨#[32]⟩ : ByteArray)) ++ t164) (wrap64 (x4 + 1))) else (none))) else (none)) else (none)) else (if x3.size + 1 ≤ 9223372036854775807 then ((line_Split.f k (x3 ++ (⟨#[32]⟩ : ByteArray))).bind fun bt165 => (if bt165.2 = 0 then ((reveillehelp_Texts.f k x0 bt165.1).bind fun t169 => (some t169)) else (some false))) else (none))
def reveillelaw5_LineQuotes.f (k : Nat) (l0 : List ByteArray) : Option (Bool) := (reveillelaw5_known.f).bind fun t161 => (if t161 = true then ((reveillehelp_Short.f k l0 20 60).bind fun t162 => (if t162 = true then (reveillelaw5_LineQuotes.l0 k l0 (⟨#[]⟩ : ByteArray) 0) else (some true))) else (some false))
theorem reveillelaw5_LineQuotes.mono_l : ∀ k, (∀ y0 y1 y2, LeO (reveillelaw5_LineQuotes.l0 k y0 y1 y2) (reveillelaw5_LineQuotes.l0 (k + 1) y0 y1 y2))
  | 0 => fun _ _ _ r h => by simp [reveillelaw5_LineQuotes.l0] at h
  | k + 1 => by
    have ih0 := reveillelaw5_LineQuotes.mono_l k
    · intro y0 y1 y2
      unfold reveillelaw5_LineQuotes.l0
      repeat' first
      | (with_reducible exact ih0 _ _ _)
      | (with_reducible exact line_Split.mono _ _)
      | (with_reducible exact reveillehelp_Short.mono _ _ _ _)
      | (with_reducible exact reveillehelp_Texts.mono _ _ _)
      | (with_reducible exact LeO.refl _)
      | (with_reducible exact LeO.none _)
      | (with_reducible refine LeO.ite ?_ ?_)
      | (with_reducible refine LeO.bind ?_ (fun _ => ?_))
      | exact ih0 _ _ _
      | exact line_Split.mono _ _
      | exact reveillehelp_Short.mono _ _ _ _
      | exact reveillehelp_Texts.mono _ _ _
      | exact LeO.none _
      | refine LeO.ite ?_ ?_
      | refine LeO.bind ?_ (fun _ => ?_)
theorem reveillelaw5_LineQuotes.mono : ∀ a0 k, LeO (reveillelaw5_LineQuotes.f k a0) (reveillelaw5_LineQuotes.f (k + 1) a0) := by
  intro a0 k
  have ih0 := reveillelaw5_LineQuotes.mono_l k
  unfold reveillelaw5_LineQuotes.f
  repeat' first
      | (with_reducible exact ih0 _ _ _)
      | (with_reducible exact line_Split.mono _ _)
      | (with_reducible exact reveillehelp_Short.mono _ _ _ _)
      | (with_reducible exact reveillehelp_Texts.mono _ _ _)
      | (with_reducible exact LeO.refl _)
      | (with_reducible exact LeO.none _)
      | (with_reducible refine LeO.ite ?_ ?_)
      | (with_reducible refine LeO.bind ?_ (fun _ => ?_))
      | exact ih0 _ _ _
      | exact line_Split.mono _ _
      | exact reveillehelp_Short.mono _ _ _ _
      | exact reveillehelp_Texts.mono _ _ _
      | exact LeO.none _
      | refine LeO.ite ?_ ?_
      | refine LeO.bind ?_ (fun _ => ?_)
set_option maxHeartbeats 8000000 in
set_option maxRecDepth 100000 in
theorem reveillelaw5_LineQuotes.calls (k : Nat) (A0 : Option Addr) (c0 : Nat) (l0 : List ByteArray) (r : Bool) (w : World) (hr0 : Kd.C Kd.string w A0 l0.length l0) (hc0 : l0.length ≤ c0) (h : reveillelaw5_LineQuotes.f k l0 = some r) (hG : GW w) :
    Calls Tryd.prog 8 #[.slice A0 l0.length c0] w fun e w' => e = .returned (.bool r) ∧ Below w.heap.size w w' := by
  have HG := Aside0.mk hG
  clear hG
  have HR0 := Aside0.mk hr0
  have HC0 := Aside0.mk hc0
  clear hr0 hc0
  have HB := Aside0.mk (Below.refl w.heap.size w)
  have H : ((reveillelaw5_known.f).bind fun t161 => (if t161 = true then ((reveillehelp_Short.f k l0 20 60).bind fun t162 => (if t162 = true then (reveillelaw5_LineQuotes.l0 k l0 (⟨#[]⟩ : ByteArray) 0) else (some true))) else (some false))) = some r := h
  clear h
  replace H := Option.bind_eq_some_iff.mp H
  obtain ⟨t161, A20, H⟩ := H
  replace H : (if t161 = true then ((reveillehelp_Short.f k l0 20 60).bind fun t162 => (if t162 = true then (reveillelaw5_LineQuotes.l0 k l0 (⟨#[]⟩ : ByteArray) 0) else (some true))) else (some false)) = some r := H
  have A2 := Aside0.mk A20
  clear A20
  by_cases c3 : t161 = true
  · subst c3
    have H1 : ((reveillehelp_Short.f k l0 20 60).bind fun t162 => (if t162 = true then (reveillelaw5_LineQuotes.l0 k l0 (⟨#[]⟩ : ByteArray) 0) else (some true))) = some r := by rw [if_pos rfl] at H; exact H
    clear H
    have H := H1
    clear H1
    replace H := Option.bind_eq_some_iff.mp H
    obtain ⟨t162, A40, H⟩ := H
    replace H : (if t162 = true then (reveillelaw5_LineQuotes.l0 k l0 (⟨#[]⟩ : ByteArray) 0) else (some true)) = some r := H
    have A4 := Aside0.mk A40
    clear A40
    by_cases c5 : t162 = true
    · subst c5
      have H1 : (reveillelaw5_LineQuotes.l0 k l0 (⟨#[]⟩ : ByteArray) 0) = some r := by rw [if_pos rfl] at H; exact H
      clear H
      have H := H1
      clear H1
      have H' := Aside0.mk H
      clear H
      go_enter Tryd.func8, Tryd.ntmps8
      go_wp2_with (first | ((with_reducible refine gate_callee (f := 9) rfl ?_); refine goesL_ (some 7) rfl rfl Tryd.func9 (by kernel_rfl) rfl #[] rfl (by (try simp only [List.map_toArray, List.map_cons, List.map_nil]); first | done | rfl | (simp only [List.length_drop, List.length_take]; rfl)) ?_; (with_reducible refine (reveillelaw5_known.calls  true _ A2.out (GW.below HG.out (by repeat (first | (with_reducible first | exact HB.out | apply below_alloc | apply pw_below_drewN | apply below_drew1) | exact HB.out)))).mono ?_); rintro e w6 ⟨rfl, hb⟩; refine ⟨_, rfl, ?_⟩; have n0_ := Aside0.mk (below_step (by repeat (first | (with_reducible first | exact HB.out | apply below_alloc | apply pw_below_drewN | apply below_drew1) | exact HB.out)) hb); clear HB; have HB := n0_; clear n0_; (try clear hb); (try clear hb2); (try clear hk); (try clear hi)) | ((with_reducible refine gate_callee (f := 12) rfl ?_); refine goesL_ (some 10) rfl rfl Tryd.func12 (by kernel_rfl) rfl #[.slice A0 l0.length c0, .int .i64 20, .int .i64 60] rfl (by (try simp only [List.map_toArray, List.map_cons, List.map_nil]); first | done | rfl | (simp only [List.length_drop, List.length_take]; rfl)) ?_; (with_reducible refine (reveillehelp_Short.calls k _ _ l0 20 60 true _ ?side1 ?side2 A4.out).mono ?_); (case side1 => repeat (first | exact (Kd.C_below HR0.out HB.out) | (with_reducible refine Kd.C_alloc ?_ _) | (with_reducible refine Kd.C_drewN ?_ _) | (with_reducible refine Kd.C_drew ?_))); (case side2 => exact HC0.out); rintro e w' ⟨rfl, ⟨nd, rfl⟩⟩; refine ⟨_, rfl, ?_⟩))
      go_loopg [3, 4] k (fun kq v3 v4 w' => ∃ (x3_1 : ByteArray) (x4_1 : Int), v3 = .string x3_1 ∧ v4 = .int .i64 x4_1 ∧ Aside0 (reveillelaw5_LineQuotes.l0 kq l0 x3_1 x4_1 = some r) ∧ Aside0 (kq ≤ k) ∧ Aside0 (Below w.heap.size w w'))
      case atStart => exact ⟨((⟨#[]⟩ : ByteArray)), (0), (by first | rfl | (simp; done) | (simp [*]; done)), (by first | rfl | (simp; done) | (simp [*]; done)), H', ⟨Nat.le_refl _⟩, ⟨by repeat (first | (with_reducible first | exact HB.out | apply below_alloc | apply pw_below_drewN | apply below_drew1) | exact HB.out)⟩⟩
      case round =>
        clear H'
        try clear c1
        try clear p2
        try clear c3
        try clear c5
        obtain ⟨x3_1, x4_1, rfl, rfl, HA, HK1, HB⟩ := hrel
        cases gk with
        | zero => exact absurd HA.out (by simp [reveillelaw5_LineQuotes.l0])
        | succ k1 =>
          have H := HA.out
          clear HA
          simp only [reveillelaw5_LineQuotes.l0] at H
          by_cases c7 : x4_1 < (l0.length : Int)
          · rw [if_pos c7] at H
            have c7b0 : decide (x4_1 < (l0.length : Int)) = true := decide_eq_true c7
            clear c7
            by_cases c8 : x3_1.size + 1 ≤ 9223372036854775807
            · rw [if_pos c8] at H
              have c8b0 := eq_true c8
              have c8b1 : decide (x3_1.size + 1 ≤ 9223372036854775807) = true := decide_eq_true c8
              try have c8b2 : (9223372036854775807 < x3_1.size + 1) = False := eq_false (Nat.not_lt.2 c8)
              by_cases c9 : 0 ≤ x4_1
              · rw [if_pos c9] at H
                have c9b0 : decide (0 ≤ x4_1) = true := decide_eq_true c9
                clear c9
                replace H := Option.bind_eq_some_iff.mp H
                obtain ⟨t164, A100, H⟩ := H
                replace H : (if (x3_1 ++ (⟨#[32]⟩ : ByteArray)).size + t164.size ≤ 9223372036854775807 then (reveillelaw5_LineQuotes.l0 k1 l0 ((x3_1 ++ (⟨#[32]⟩ : ByteArray)) ++ t164) (wrap64 (x4_1 + 1))) else (none)) = some r := H
                have A10 := Aside0.mk A100
                clear A100
                by_cases c11 : (x3_1 ++ (⟨#[32]⟩ : ByteArray)).size + t164.size ≤ 9223372036854775807
                · rw [if_pos c11] at H
                  have c11b0 := eq_true c11
                  have c11b1 : decide ((x3_1 ++ (⟨#[32]⟩ : ByteArray)).size + t164.size ≤ 9223372036854775807) = true := decide_eq_true c11
                  try have c11b2 : (9223372036854775807 < (x3_1 ++ (⟨#[32]⟩ : ByteArray)).size + t164.size) = False := eq_false (Nat.not_lt.2 c11)
                  have c11x : (9223372036854775807 < x3_1.size + 1 + t164.size) = False := eq_false (by have h := c11; rw [ByteArray.size_append, show (⟨#[32]⟩ : ByteArray).size = 1 from rfl] at h; omega)
                  have H' := Aside0.mk H
                  clear H
                  have p163 : 0 ≤ (x4_1 : Int) := of_decide_eq_true (by first | (with_reducible assumption) | assumption)
                  have q163 : x4_1 < (l0.length : Int) := of_decide_eq_true (by first | (with_reducible assumption) | assumption)
                  obtain ⟨ad163, e163, hx163_0⟩ := Kd.at_string HR0.out x4_1 p163 q163
                  cases e163
                  replace hx163_0 := (HB.out.cell (World.block_lt_of_cell? w _ hx163_0)).trans hx163_0
                  replace p163 := eq_true p163
                  replace q163 := eq_true q163
                  go_wp2_with (first | ((with_reducible refine gate_callee (f := 20) rfl ?_); refine goesL_ (some 24) rfl rfl Tryd.func20 (by kernel_rfl) rfl #[.string (rdOf ByteArray.empty l0 x4_1)] rfl (by (try simp only [List.map_toArray, List.map_cons, List.map_nil]); first | done | rfl | (simp only [List.length_drop, List.length_take]; rfl)) ?_; (with_reducible refine (line_Quote.calls (rdOf ByteArray.empty l0 x4_1) t164 _ A10.out (GW.below HG.out (by repeat (first | (with_reducible first | exact HB.out | apply below_alloc | apply pw_below_drewN | apply below_drew1) | exact HB.out)))).mono ?_); rintro e w12 ⟨rfl, hb⟩; refine ⟨_, rfl, ?_⟩; have n0_ := Aside0.mk (below_step (by repeat (first | (with_reducible first | exact HB.out | apply below_alloc | apply pw_below_drewN | apply below_drew1) | exact HB.out)) hb); clear HB; have HB := n0_; clear n0_; (try clear hb); (try clear hb2); (try clear hk); (try clear hi)))
                  go_roundg k1
                  case measure => have := HK1.out; omega
                  case rel => exact ⟨((x3_1 ++ (⟨#[32]⟩ : ByteArray)) ++ t164), (wrap64 (x4_1 + 1)), (by first | rfl | (simp; done) | (simp [*]; done)), (by first | rfl | (simp; done) | (simp [*]; done)), H', ⟨by have := HK1.out; omega⟩, ⟨by repeat (first | (with_reducible first | exact HB.out | apply below_alloc | apply pw_below_drewN | apply below_drew1) | exact HB.out)⟩⟩
                · rw [if_neg c11] at H
                  exact absurd H (by simp)
              · rw [if_neg c9] at H
                exact absurd H (by simp)
            · rw [if_neg c8] at H
              exact absurd H (by simp)
          · rw [if_neg c7] at H
            have c7b0 : decide (x4_1 < (l0.length : Int)) = false := decide_eq_false c7
            clear c7
            by_cases c13 : x3_1.size + 1 ≤ 9223372036854775807
            · rw [if_pos c13] at H
              have c13b0 := eq_true c13
              have c13b1 : decide (x3_1.size + 1 ≤ 9223372036854775807) = true := decide_eq_true c13
              try have c13b2 : (9223372036854775807 < x3_1.size + 1) = False := eq_false (Nat.not_lt.2 c13)
              replace H := Option.bind_eq_some_iff.mp H
              obtain ⟨⟨t165, t166⟩, A140, H⟩ := H
              replace H : (if t166 = 0 then ((reveillehelp_Texts.f k1 l0 t165).bind fun t169 => (some t169)) else (some false)) = some r := H
              have A14 := Aside0.mk A140
              clear A140
              by_cases c15 : t166 = 0
              · rw [if_pos c15] at H
                have c15b0 : (t166 == 0) = true := beq_iff_eq.mpr c15
                have c15b1 : (t166 != 0) = false := bne_eq_false_iff_eq.mpr c15
                clear c15
                replace H := Option.bind_eq_some_iff.mp H
                obtain ⟨t169, A160, H⟩ := H
                replace H : (some t169) = some r := H
                have A16 := Aside0.mk A160
                clear A160
                obtain rfl := Option.some.inj H
                go_wp2_with (first | ((with_reducible refine gate_callee (f := 13) rfl ?_); refine goesL_ (some 29) rfl rfl Tryd.func13 (by kernel_rfl) rfl #[.string (x3_1 ++ (⟨#[32]⟩ : ByteArray))] rfl (by (try simp only [List.map_toArray, List.map_cons, List.map_nil]); first | done | rfl | (simp only [List.length_drop, List.length_take]; rfl)) ?_; (with_reducible refine (line_Split.calls k1 (x3_1 ++ (⟨#[32]⟩ : ByteArray)) t165 t166 _ A14.out (GW.below HG.out (by repeat (first | (with_reducible first | exact HB.out | apply below_alloc | apply pw_below_drewN | apply below_drew1) | exact HB.out)))).mono ?_); rintro e w17 ⟨v167, rfl, ho0, hb⟩; refine ⟨_, rfl, ?_⟩; have n0_ := Aside0.mk (Kd.R_lower ho0 (below_size (by repeat (first | (with_reducible first | exact HB.out | apply below_alloc | apply pw_below_drewN | apply below_drew1) | exact HB.out)))); have n1_ := Aside0.mk (below_step (by repeat (first | (with_reducible first | exact HB.out | apply below_alloc | apply pw_below_drewN | apply below_drew1) | exact HB.out)) hb); clear HB; have HO168 := n0_; have HB := n1_; clear n0_ n1_; (try clear hb); (try clear hb2); (try clear hk); (try clear hi); (try clear ho0); obtain ⟨Ao18, co18, eo18⟩ := Kd.R_slice HO168.out; subst eo18) | (go_at_call 14; (with_reducible refine (reveillehelp_Texts.calls k1 _ _ l0 _ _ t165 t169 _ ?side1 ?side2 ?side3 ?side4 A16.out).mono ?_); (case side1 => repeat (first | exact (Kd.C_below HR0.out HB.out) | (with_reducible refine Kd.C_alloc ?_ _) | (with_reducible refine Kd.C_drewN ?_ _) | (with_reducible refine Kd.C_drew ?_))); (case side2 => exact HC0.out); (case side3 => repeat (first | exact (Kd.R_reads' HO168.out).2.2 | (with_reducible refine Kd.C_alloc ?_ _) | (with_reducible refine Kd.C_drewN ?_ _) | (with_reducible refine Kd.C_drew ?_))); (case side4 => exact (Kd.R_reads' HO168.out).2.1); rintro e w' ⟨rfl, ⟨nd, rfl⟩⟩))
                go_ret
                exact ⟨by first | rfl | (simp [errW_none, errW_some] <;> rfl) | (simp [*, errW_none, errW_some] <;> rfl), by repeat (first | (with_reducible first | exact HB.out | apply below_alloc | apply pw_below_drewN | apply below_drew1) | exact HB.out)⟩
              · rw [if_neg c15] at H
                have c15b0 : (t166 == 0) = false := beq_eq_false_iff_ne.mpr c15
                have c15b1 : (t166 != 0) = true := bne_iff_ne.mpr c15
                obtain rfl := Option.some.inj H
                go_wp2_with (first | ((with_reducible refine gate_callee (f := 13) rfl ?_); refine goesL_ (some 29) rfl rfl Tryd.func13 (by kernel_rfl) rfl #[.string (x3_1 ++ (⟨#[32]⟩ : ByteArray))] rfl (by (try simp only [List.map_toArray, List.map_cons, List.map_nil]); first | done | rfl | (simp only [List.length_drop, List.length_take]; rfl)) ?_; (with_reducible refine (line_Split.calls k1 (x3_1 ++ (⟨#[32]⟩ : ByteArray)) t165 t166 _ A14.out (GW.below HG.out (by repeat (first | (with_reducible first | exact HB.out | apply below_alloc | apply pw_below_drewN | apply below_drew1) | exact HB.out)))).mono ?_); rintro e w19 ⟨v167, rfl, ho0, hb⟩; refine ⟨_, rfl, ?_⟩; have n0_ := Aside0.mk (Kd.R_lower ho0 (below_size (by repeat (first | (with_reducible first | exact HB.out | apply below_alloc | apply pw_below_drewN | apply below_drew1) | exact HB.out)))); have n1_ := Aside0.mk (below_step (by repeat (first | (with_reducible first | exact HB.out | apply below_alloc | apply pw_below_drewN | apply below_drew1) | exact HB.out)) hb); clear HB; have HO168 := n0_; have HB := n1_; clear n0_ n1_; (try clear hb); (try clear hb2); (try clear hk); (try clear hi); (try clear ho0)))
                go_ret
                exact ⟨by first | rfl | (simp [errW_none, errW_some] <;> rfl) | (simp [*, errW_none, errW_some] <;> rfl), by repeat (first | (with_reducible first | exact HB.out | apply below_alloc | apply pw_below_drewN | apply below_drew1) | exact HB.out)⟩
            · rw [if_neg c13] at H
              exact absurd H (by simp)
    · replace c5 := Bool.eq_false_iff.mpr c5
      subst c5
      have H1 : (some true) = some r := by rw [if_neg (show ¬ (false = true) by decide)] at H; exact H
      clear H
      have H := H1
      clear H1
      obtain rfl := Option.some.inj H
      go_enter Tryd.func8, Tryd.ntmps8
      go_wp2_with (first | ((with_reducible refine gate_callee (f := 9) rfl ?_); refine goesL_ (some 7) rfl rfl Tryd.func9 (by kernel_rfl) rfl #[] rfl (by (try simp only [List.map_toArray, List.map_cons, List.map_nil]); first | done | rfl | (simp only [List.length_drop, List.length_take]; rfl)) ?_; (with_reducible refine (reveillelaw5_known.calls  true _ A2.out (GW.below HG.out (by repeat (first | (with_reducible first | exact HB.out | apply below_alloc | apply pw_below_drewN | apply below_drew1) | exact HB.out)))).mono ?_); rintro e w20 ⟨rfl, hb⟩; refine ⟨_, rfl, ?_⟩; have n0_ := Aside0.mk (below_step (by repeat (first | (with_reducible first | exact HB.out | apply below_alloc | apply pw_below_drewN | apply below_drew1) | exact HB.out)) hb); clear HB; have HB := n0_; clear n0_; (try clear hb); (try clear hb2); (try clear hk); (try clear hi)) | ((with_reducible refine gate_callee (f := 12) rfl ?_); refine goesL_ (some 10) rfl rfl Tryd.func12 (by kernel_rfl) rfl #[.slice A0 l0.length c0, .int .i64 20, .int .i64 60] rfl (by (try simp only [List.map_toArray, List.map_cons, List.map_nil]); first | done | rfl | (simp only [List.length_drop, List.length_take]; rfl)) ?_; (with_reducible refine (reveillehelp_Short.calls k _ _ l0 20 60 false _ ?side1 ?side2 A4.out).mono ?_); (case side1 => repeat (first | exact (Kd.C_below HR0.out HB.out) | (with_reducible refine Kd.C_alloc ?_ _) | (with_reducible refine Kd.C_drewN ?_ _) | (with_reducible refine Kd.C_drew ?_))); (case side2 => exact HC0.out); rintro e w' ⟨rfl, ⟨nd, rfl⟩⟩; refine ⟨_, rfl, ?_⟩))
      go_ret
      exact ⟨by first | rfl | (simp [errW_none, errW_some] <;> rfl) | (simp [*, errW_none, errW_some] <;> rfl), by repeat (first | (with_reducible first | exact HB.out | apply below_alloc | apply pw_below_drewN | apply below_drew1) | exact HB.out)⟩
  · replace c3 := Bool.eq_false_iff.mpr c3
    subst c3
    have H1 : (some false) = some r := by rw [if_neg (show ¬ (false = true) by decide)] at H; exact H
    clear H
    have H := H1
    clear H1
    obtain rfl := Option.some.inj H
    go_enter Tryd.func8, Tryd.ntmps8
    go_wp2_with (first | ((with_reducible refine gate_callee (f := 9) rfl ?_); refine goesL_ (some 7) rfl rfl Tryd.func9 (by kernel_rfl) rfl #[] rfl (by (try simp only [List.map_toArray, List.map_cons, List.map_nil]); first | done | rfl | (simp only [List.length_drop, List.length_take]; rfl)) ?_; (with_reducible refine (reveillelaw5_known.calls  false _ A2.out (GW.below HG.out (by repeat (first | (with_reducible first | exact HB.out | apply below_alloc | apply pw_below_drewN | apply below_drew1) | exact HB.out)))).mono ?_); rintro e w21 ⟨rfl, hb⟩; refine ⟨_, rfl, ?_⟩; have n0_ := Aside0.mk (below_step (by repeat (first | (with_reducible first | exact HB.out | apply below_alloc | apply pw_below_drewN | apply below_drew1) | exact HB.out)) hb); clear HB; have HB := n0_; clear n0_; (try clear hb); (try clear hb2); (try clear hk); (try clear hi)))
    go_ret
    exact ⟨by first | rfl | (simp [errW_none, errW_some] <;> rfl) | (simp [*, errW_none, errW_some] <;> rfl), by repeat (first | (with_reducible first | exact HB.out | apply below_alloc | apply pw_below_drewN | apply below_drew1) | exact HB.out)⟩


end Go.Proofs.YtaihipdebmcmhaaDoor.Splits
