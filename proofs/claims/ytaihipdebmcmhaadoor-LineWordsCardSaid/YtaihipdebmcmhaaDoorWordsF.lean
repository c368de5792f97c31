/- Out of the program's functions that the law reaches, part 0: what each computes, and that the machine computes it. -/
import Derived.Test.YtaihipdebmcmhaaDoorSplitsF0
namespace Go.Proofs.YtaihipdebmcmhaaDoor.Splits
open Go.RowKit Go.Proofs.YtaihipdebmcmhaaDoorW.PrintWords Go.Proofs.YtaihipdebmcmhaaDoorW.PrintLast
set_option linter.unusedVariables false
set_option linter.unusedSimpArgs false
/-! ### reveillehelp_Short: function 12 -/
def reveillehelp_Short.l0 : Nat → List ByteArray → Int → Int → Int → Option (Bool)
  | 0, _, _, _, _ => none
  | k + 1, x0, x1, x2, x7 => if x7 < (x0.length : Int) then (if 0 ≤ x7 then (if ((rdOf ByteArray.empty x0 x7).size : Int) > x2 then (some false) else (reveillehelp_Short.l0 k x0 x1 x2 (wrap64 (x7 + 1)))) else (none)) else (some (decide ((x0.length : Int) ≤ x1)))
def reveillehelp_Short.f (k : Nat) (l0 : List ByteArray) (a1 : Int) (a2 : Int) : Option (Bool) := reveillehelp_Short.l0 k l0 a1 a2 0
theorem reveillehelp_Short.mono_l : ∀ k, (∀ y0 y1 y2 y3, LeO (reveillehelp_Short.l0 k y0 y1 y2 y3) (reveillehelp_Short.l0 (k + 1) y0 y1 y2 y3))
  | 0 => fun _ _ _ _ r h => by simp [reveillehelp_Short.l0] at h
  | k + 1 => by
    have ih0 := reveillehelp_Short.mono_l k
    · intro y0 y1 y2 y3
      unfold reveillehelp_Short.l0
      repeat' first
      | (with_reducible exact ih0 _ _ _ _)
      | (with_reducible exact LeO.refl _)
      | (with_reducible exact LeO.none _)
      | (with_reducible refine LeO.ite ?_ ?_)
      | (with_reducible refine LeO.bind ?_ (fun _ => ?_))
      | exact ih0 _ _ _ _
      | exact LeO.none _
      | refine LeO.ite ?_ ?_
      | refine LeO.bind ?_ (fun _ => ?_)
theorem reveillehelp_Short.mono : ∀ a0 a1 a2 k, LeO (reveillehelp_Short.f k a0 a1 a2) (reveillehelp_Short.f (k + 1) a0 a1 a2) := by
  intro a0 a1 a2 k
  have ih0 := reveillehelp_Short.mono_l k
  unfold reveillehelp_Short.f
  repeat' first
      | (with_reducible exact ih0 _ _ _ _)
      | (with_reducible exact LeO.refl _)
      | (with_reducible exact LeO.none _)
      | (with_reducible refine LeO.ite ?_ ?_)
      | (with_reducible refine LeO.bind ?_ (fun _ => ?_))
      | exact ih0 _ _ _ _
      | exact LeO.none _
      | refine LeO.ite ?_ ?_
      | refine LeO.bind ?_ (fun _ => ?_)
set_option maxHeartbeats 8000000 in
set_option maxRecDepth 100000 in
theorem reveillehelp_Short.calls (k : Nat) (A0 : Option Addr) (c0 : Nat) (l0 : List ByteArray) (a1 : Int) (a2 : Int) (r : Bool) (w : World) (hr0 : Kd.C Kd.string w A0 l0.length l0) (hc0 : l0.length ≤ c0) (h : reveillehelp_Short.f k l0 a1 a2 = some r) :
    Calls Tryd.prog 12 #[.slice A0 l0.length c0, .int .i64 a1, .int .i64 a2] w fun e w' => e = .returned (.bool r) ∧ Drawn0 w w' := by
  have HR0 := Aside0.mk hr0
  have HC0 := Aside0.mk hc0
  clear hr0 hc0
  have H : (reveillehelp_Short.l0 k l0 a1 a2 0) = some r := h
  clear h
  have H' := Aside0.mk H
  clear H
  go_enter Tryd.func12, Tryd.ntmps12
  go_wp2
  go_loopg [7] k (fun kq v7 w' => ∃ (x7_1 : Int), v7 = .int .i64 x7_1 ∧ Aside0 (reveillehelp_Short.l0 kq l0 a1 a2 x7_1 = some r) ∧ Aside0 (kq ≤ k) ∧ Drawn0 w w')
  case atStart => exact ⟨(0), (by first | rfl | (simp; done) | (simp [*]; done)), H', ⟨Nat.le_refl _⟩, by repeat (first | exact Drawn0.refl _ | apply Drawn0.step)⟩
  case round =>
    clear H'
    try clear c1
    try clear p2
    obtain ⟨x7_1, rfl, HA, HK1, ⟨m1, rfl⟩⟩ := hrel
    cases gk with
    | zero => exact absurd HA.out (by simp [reveillehelp_Short.l0])
    | succ k1 =>
      have H := HA.out
      clear HA
      simp only [reveillehelp_Short.l0] at H
      by_cases c4 : x7_1 < (l0.length : Int)
      · rw [if_pos c4] at H
        have c4b0 : decide (x7_1 < (l0.length : Int)) = true := decide_eq_true c4
        clear c4
        by_cases c5 : 0 ≤ x7_1
        · rw [if_pos c5] at H
          have c5b0 : decide (0 ≤ x7_1) = true := decide_eq_true c5
          clear c5
          by_cases c6 : ((rdOf ByteArray.empty l0 x7_1).size : Int) > a2
          · rw [if_pos c6] at H
            have c6b0 : decide (a2 < ((rdOf ByteArray.empty l0 x7_1).size : Int)) = true := decide_eq_true c6
            clear c6
            obtain rfl := Option.some.inj H
            have p154 : 0 ≤ (x7_1 : Int) := of_decide_eq_true (by first | (with_reducible assumption) | assumption)
            have q154 : x7_1 < (l0.length : Int) := of_decide_eq_true (by first | (with_reducible assumption) | assumption)
            obtain ⟨ad154, e154, hx154_0⟩ := Kd.at_string HR0.out x7_1 p154 q154
            cases e154
            replace p154 := eq_true p154
            replace q154 := eq_true q154
            go_wp2
            go_ret
            exact ⟨by first | rfl | (simp; done) | (simp [*]; done), by repeat (first | exact Drawn0.refl _ | apply Drawn0.step)⟩
          · rw [if_neg c6] at H
            have c6b0 : decide (a2 < ((rdOf ByteArray.empty l0 x7_1).size : Int)) = false := decide_eq_false c6
            clear c6
            have H' := Aside0.mk H
            clear H
            have p154 : 0 ≤ (x7_1 : Int) := of_decide_eq_true (by first | (with_reducible assumption) | assumption)
            have q154 : x7_1 < (l0.length : Int) := of_decide_eq_true (by first | (with_reducible assumption) | assumption)
            obtain ⟨ad154, e154, hx154_0⟩ := Kd.at_string HR0.out x7_1 p154 q154
            cases e154
            replace p154 := eq_true p154
            replace q154 := eq_true q154
            go_wp2
            go_roundg k1
            case measure => have := HK1.out; omega
            case rel => exact ⟨(wrap64 (x7_1 + 1)), (by first | rfl | (simp; done) | (simp [*]; done)), H', ⟨by have := HK1.out; omega⟩, by repeat (first | exact Drawn0.refl _ | apply Drawn0.step)⟩
        · rw [if_neg c5] at H
          exact absurd H (by simp)
      · rw [if_neg c4] at H
        have c4b0 : decide (x7_1 < (l0.length : Int)) = false := decide_eq_false c4
        clear c4
        obtain rfl := Option.some.inj H
        go_wp2
        go_ret
        exact ⟨by first | rfl | (simp; done) | (simp [*]; done), by repeat (first | exact Drawn0.refl _ | apply Drawn0.step)⟩


/-- the blanks between words -/
def blk (i : Int) : ByteArray := if i = 0 then ⟨#[32]⟩ else if i = 1 then ⟨#[9]⟩ else if i = 2 then ⟨#[32, 32, 9, 32]⟩ else ⟨#[9, 9]⟩
def blk_.f (i : Int) : Option ByteArray := some (blk i)
def blkO : Obj := .cells #[.string ⟨#[32]⟩, .string ⟨#[9]⟩, .string ⟨#[32, 32, 9, 32]⟩, .string ⟨#[9, 9]⟩] 37
theorem rd_mod (l1 : List Int) (h : ∀ x, x ∈ l1 → 0 ≤ x ∧ x < 256) (i : Int) : 0 ≤ (rd l1 i).tmod 4 ∧ (rd l1 i).tmod 4 < 4 := by
  have h0 : 0 ≤ rd l1 i := by
    unfold rd
    rw [List.getD_eq_getElem?_getD]
    cases hx : l1[i.toNat]? with
    | none => exact Int.le_refl _
    | some x => exact (h x (List.mem_of_getElem? hx)).1
  rw [Int.tmod_eq_emod_of_nonneg h0]
  omega
theorem blk_get (z : Int) (h0 : 0 ≤ z) (h4 : z < 4) (h : z.toNat < [Value.string ⟨#[32]⟩, .string ⟨#[9]⟩, .string ⟨#[32, 32, 9, 32]⟩, .string ⟨#[9, 9]⟩].length) : [Value.string ⟨#[32]⟩, .string ⟨#[9]⟩, .string ⟨#[32, 32, 9, 32]⟩, .string ⟨#[9, 9]⟩][z.toNat]'h = .string (blk z) := by
  rcases (by omega : z = 0 ∨ z = 1 ∨ z = 2 ∨ z = 3) with rfl | rfl | rfl | rfl <;> rfl
theorem blk_cell {wc w : World} (h : Below (wc.heap.size + 1) (wc.alloc blkO) w) {z : Int} (h0 : 0 ≤ z) (h4 : z < 4) : w.cell? ⟨wc.heap.size, z.toNat, none⟩ = some (.string (blk z)) := by
  rw [h.cell (p := ⟨wc.heap.size, z.toNat, none⟩) (Nat.lt_succ_self _)]
  have e : (wc.alloc blkO).heap[wc.heap.size]? = some blkO := by
    show (wc.heap.push blkO)[wc.heap.size]? = _
    simp
  unfold World.cell?
  rw [e]
  rcases (by omega : z = 0 ∨ z = 1 ∨ z = 2 ∨ z = 3) with rfl | rfl | rfl | rfl <;> rfl
/-! ### reveillelaw5_LineWords: function 5 -/
mutual
def reveillelaw5_LineWords.j0 : Nat → List ByteArray → List Int → Bool → Option (Bool)
  | 0, _, _, _ => none
  | k + 1, x0, x1, x23 => if x23 = true then (some true) else (if 0 < (x1.length : Int) then ((blk_.f (Int.tmod (rd x1 0) 4)).bind fun t158 => (reveillelaw5_LineWords.l0 k x0 x1 t158 0)) else (none))
def reveillelaw5_LineWords.l0 : Nat → List ByteArray → List Int → ByteArray → Int → Option (Bool)
  | 0, _, _, _, _ => none
  | k + 1, x0, x1, x6, x7 => if x7 < (x0.length : Int) then (reveillelaw5_LineWords.l1 k x0 x1 x6 x7 0) else ((line_Split.f k x6).bind fun bt159 => (if bt159.2 = 0 then ((reveillehelp_Texts.f k bt159.1 x0).bind fun t163 => (some t163)) else (some false)))
def reveillelaw5_LineWords.l1 : Nat → List ByteArray → List Int → ByteArray → Int → Int → Option (Bool)
  | 0, _, _, _, _, _ => none
  | k + 1, x0, x1, x6, x7, x8 => if 0 ≤ x7 then (if x7 < (x0.length : Int) then (if x8 < ((rdOf ByteArray.empty x0 x7).size : Int) then (if 0 ≤ x8 then (if (bt (rdOf ByteArray.empty x0 x7) x8) = 32 then (some true) else (if (bt (rdOf ByteArray.empty x0 x7) x8) = 9 then (some true) else (reveillelaw5_LineWords.l1 k x0 x1 x6 x7 (wrap64 (x8 + 1))))) else (none)) else (if (rdOf ByteArray.empty x0 x7).toList = ([] : List UInt8) then (some true) else (if 0 < ((rdOf ByteArray.empty x0 x7).size : Int) then (if (bt (rdOf ByteArray.empty x0 x7) 0) = 34 then (some true) else (if (bt (rdOf ByteArray.empty x0 x7) 0) = 39 then (some true) else (if x6.size + (rdOf ByteArray.empty x0 x7).size ≤ 9223372036854775807 then (if 0 ≤ (wrap64 (x7 + 1)) then (if (wrap64 (x7 + 1)) < (x1.length : Int) then ((blk_.f (Int.tmod (rd x1 (wrap64 (x7 + 1))) 4)).bind fun t172 => (if (x6 ++ (rdOf ByteArray.empty x0 x7)).size + t172.size ≤ 9223372036854775807 then (reveillelaw5_LineWords.l0 k x0 x1 ((x6 ++ (rdOf ByteArray.empty x0 x7)) ++ t172) (wrap64 (x7 + 1))) else (none))) else (none)) else (none)) else (none)))) else (none)))) else (none)) else (none)
end
def reveillelaw5_LineWords.f (k : Nat) (l0 : List ByteArray) (l1 : List Int) : Option (Bool) := (reveillelaw5_known.f).bind fun t155 => (if t155 = true then ((reveillehelp_Short.f k l0 20 40).bind fun t156 => (if t156 = true then (reveillelaw5_LineWords.j0 k l0 l1 (decide ((l1.length : Int) < (wrap64 ((l0.length : Int) + 1))))) else (reveillelaw5_LineWords.j0 k l0 l1 true))) else (some false))
theorem reveillelaw5_LineWords.mono_l : ∀ k, (∀ y0 y1 y2, LeO (reveillelaw5_LineWords.j0 k y0 y1 y2) (reveillelaw5_LineWords.j0 (k + 1) y0 y1 y2)) ∧ (∀ y0 y1 y2 y3, LeO (reveillelaw5_LineWords.l0 k y0 y1 y2 y3) (reveillelaw5_LineWords.l0 (k + 1) y0 y1 y2 y3)) ∧ (∀ y0 y1 y2 y3 y4, LeO (reveillelaw5_LineWords.l1 k y0 y1 y2 y3 y4) (reveillelaw5_LineWords.l1 (k + 1) y0 y1 y2 y3 y4))
  | 0 => ⟨fun _ _ _ r h => by simp [reveillelaw5_LineWords.j0] at h, fun _ _ _ _ r h => by simp [reveillelaw5_LineWords.l0] at h, fun _ _ _ _ _ r h => by simp [reveillelaw5_LineWords.l1] at h⟩
  | k + 1 => by
    obtain ⟨ih0, ih1, ih2⟩ := reveillelaw5_LineWords.mono_l k
    refine ⟨?_, ?_, ?_⟩
    · intro y0 y1 y2
      unfold reveillelaw5_LineWords.j0
      repeat' first
      | (with_reducible exact ih0 _ _ _)
      | (with_reducible exact ih1 _ _ _ _)
      | (with_reducible exact ih2 _ _ _ _ _)
      | (with_reducible exact line_Split.mono _ _)
      | (with_reducible exact reveillehelp_Short.mono _ _ _ _)
      | (with_reducible exact reveillehelp_Texts.mono _ _ _)
      | (with_reducible exact LeO.refl _)
      | (with_reducible exact LeO.none _)
      | (with_reducible refine LeO.ite ?_ ?_)
      | (with_reducible refine LeO.bind ?_ (fun _ => ?_))
      | exact ih0 _ _ _
      | exact ih1 _ _ _ _
      | exact ih2 _ _ _ _ _
      | exact line_Split.mono _ _
      | exact reveillehelp_Short.mono _ _ _ _
      | exact reveillehelp_Texts.mono _ _ _
      | exact LeO.none _
      | refine LeO.ite ?_ ?_
      | refine LeO.bind ?_ (fun _ => ?_)
    · intro y0 y1 y2 y3
      unfold reveillelaw5_LineWords.l0
      repeat' first
      | (with_reducible exact ih0 _ _ _)
      | (with_reducible exact ih1 _ _ _ _)
      | (with_reducible exact ih2 _ _ _ _ _)
      | (with_reducible exact line_Split.mono _ _)
      | (with_reducible exact reveillehelp_Short.mono _ _ _ _)
      | (with_reducible exact reveillehelp_Texts.mono _ _ _)
      | (with_reducible exact LeO.refl _)
      | (with_reducible exact LeO.none _)
      | (with_reducible refine LeO.ite ?_ ?_)
      | (with_reducible refine LeO.bind ?_ (fun _ => ?_))
      | exact ih0 _ _ _
      | exact ih1 _ _ _ _
      | exact ih2 _ _ _ _ _
      | exact line_Split.mono _ _
      | exact reveillehelp_Short.mono _ _ _ _
      | exact reveillehelp_Texts.mono _ _ _
      | exact LeO.none _
      | refine LeO.ite ?_ ?_
      | refine LeO.bind ?_ (fun _ => ?_)
    · intro y0 y1 y2 y3 y4
      unfold reveillelaw5_LineWords.l1
      repeat' first
      | (with_reducible exact ih0 _ _ _)
      | (with_reducible exact ih1 _ _ _ _)
      | (with_reducible exact ih2 _ _ _ _ _)
      | (with_reducible exact line_Split.mono _ _)
      | (with_reducible exact reveillehelp_Short.mono _ _ _ _)
      | (with_reducible exact reveillehelp_Texts.mono _ _ _)
      | (with_reducible exact LeO.refl _)
      | (with_reducible exact LeO.none _)
      | (with_reducible refine LeO.ite ?_ ?_)
      | (with_reducible refine LeO.bind ?_ (fun _ => ?_))
      | exact ih0 _ _ _
      | exact ih1 _ _ _ _
      | exact ih2 _ _ _ _ _
      | exact line_Split.mono _ _
      | exact reveillehelp_Short.mono _ _ _ _
      | exact reveillehelp_Texts.mono _ _ _
      | exact LeO.none _
      | refine LeO.ite ?_ ?_
      | refine LeO.bind ?_ (fun _ => ?_)
theorem reveillelaw5_LineWords.mono : ∀ a0 a1 k, LeO (reveillelaw5_LineWords.f k a0 a1) (reveillelaw5_LineWords.f (k + 1) a0 a1) := by
  intro a0 a1 k
  obtain ⟨ih0, ih1, ih2⟩ := reveillelaw5_LineWords.mono_l k
  unfold reveillelaw5_LineWords.f
  repeat' first
      | (with_reducible exact ih0 _ _ _)
      | (with_reducible exact ih1 _ _ _ _)
      | (with_reducible exact ih2 _ _ _ _ _)
      | (with_reducible exact line_Split.mono _ _)
      | (with_reducible exact reveillehelp_Short.mono _ _ _ _)
      | (with_reducible exact reveillehelp_Texts.mono _ _ _)
      | (with_reducible exact LeO.refl _)
      | (with_reducible exact LeO.none _)
      | (with_reducible refine LeO.ite ?_ ?_)
      | (with_reducible refine LeO.bind ?_ (fun _ => ?_))
      | exact ih0 _ _ _
      | exact ih1 _ _ _ _
      | exact ih2 _ _ _ _ _
      | exact line_Split.mono _ _
      | exact reveillehelp_Short.mono _ _ _ _
      | exact reveillehelp_Texts.mono _ _ _
      | exact LeO.none _
      | refine LeO.ite ?_ ?_
      | refine LeO.bind ?_ (fun _ => ?_)
set_option maxHeartbeats 8000000 in
set_option maxRecDepth 100000 in
theorem reveillelaw5_LineWords.calls (k : Nat) (A0 : Option Addr) (c0 : Nat) (l0 : List ByteArray) (A1 : Option Addr) (c1 : Nat) (l1 : List Int) (r : Bool) (w : World) (hr0 : Kd.C Kd.string w A0 l0.length l0) (hc0 : l0.length ≤ c0) (hr1 : Kd.C (Kd.int .u8) w A1 l1.length l1) (hc1 : l1.length ≤ c1) (h : reveillelaw5_LineWords.f k l0 l1 = some r) (hrg : ∀ x, x ∈ l1 → 0 ≤ x ∧ x < 256) (hG : GW w) :
    Calls Tryd.prog 5 #[.slice A0 l0.length c0, .slice A1 l1.length c1] w fun e w' => e = .returned (.bool r) ∧ Below w.heap.size w w' := by
  have HG := Aside0.mk hG
  clear hG
  have HRG := Aside0.mk hrg
  clear hrg
  have HR0 := Aside0.mk hr0
  have HC0 := Aside0.mk hc0
  clear hr0 hc0
  have HR1 := Aside0.mk hr1
  have HC1 := Aside0.mk hc1
  clear hr1 hc1
  have HB := Aside0.mk (Below.refl w.heap.size w)
  have H : ((reveillelaw5_known.f).bind fun t155 => (if t155 = true then ((reveillehelp_Short.f k l0 20 40).bind fun t156 => (if t156 = true then (reveillelaw5_LineWords.j0 k l0 l1 (decide ((l1.length : Int) < (wrap64 ((l0.length : Int) + 1))))) else (reveillelaw5_LineWords.j0 k l0 l1 true))) else (some false))) = some r := h
  clear h
  replace H := Option.bind_eq_some_iff.mp H
  obtain ⟨t155, A30, H⟩ := H
  replace H : (if t155 = true then ((reveillehelp_Short.f k l0 20 40).bind fun t156 => (if t156 = true then (reveillelaw5_LineWords.j0 k l0 l1 (decide ((l1.length : Int) < (wrap64 ((l0.length : Int) + 1))))) else (reveillelaw5_LineWords.j0 k l0 l1 true))) else (some false)) = some r := H
  have A3 := Aside0.mk A30
  clear A30
  by_cases c4 : t155 = true
  · subst c4
    have H1 : ((reveillehelp_Short.f k l0 20 40).bind fun t156 => (if t156 = true then (reveillelaw5_LineWords.j0 k l0 l1 (decide ((l1.length : Int) < (wrap64 ((l0.length : Int) + 1))))) else (reveillelaw5_LineWords.j0 k l0 l1 true))) = some r := by rw [if_pos rfl] at H; exact H
    clear H
    have H := H1
    clear H1
    have HC5 := Aside0.mk H
    clear H
    go_enter Tryd.func5, Tryd.ntmps5
    go_upto_region 3 with (first | (go_at_call 9; (with_reducible refine (reveillelaw5_known.calls  true _ A3.out (GW.below HG.out (by repeat (first | (with_reducible first | exact HB.out | apply below_alloc | apply pw_below_drewN | apply below_drew1) | exact HB.out)))).mono ?_); rintro e w6 ⟨rfl, hb⟩; have n0_ := Aside0.mk (below_step (by repeat (first | (with_reducible first | exact HB.out | apply below_alloc | apply pw_below_drewN | apply below_drew1) | exact HB.out)) hb); clear HB; have HB := n0_; clear n0_; (try clear hb); (try clear hb2); (try clear hk); (try clear hi)))
    repeat (go_quiet (first | (go_at_call 9; (with_reducible refine (reveillelaw5_known.calls  true _ A3.out (GW.below HG.out (by repeat (first | (with_reducible first | exact HB.out | apply below_alloc | apply pw_below_drewN | apply below_drew1) | exact HB.out)))).mono ?_); rintro e w6 ⟨rfl, hb⟩; have n0_ := Aside0.mk (below_step (by repeat (first | (with_reducible first | exact HB.out | apply below_alloc | apply pw_below_drewN | apply below_drew1) | exact HB.out)) hb); clear HB; have HB := n0_; clear n0_; (try clear hb); (try clear hb2); (try clear hk); (try clear hi))); go_upto_region 3 with (first | (go_at_call 9; (with_reducible refine (reveillelaw5_known.calls  true _ A3.out (GW.below HG.out (by repeat (first | (with_reducible first | exact HB.out | apply below_alloc | apply pw_below_drewN | apply below_drew1) | exact HB.out)))).mono ?_); rintro e w6 ⟨rfl, hb⟩; have n0_ := Aside0.mk (below_step (by repeat (first | (with_reducible first | exact HB.out | apply below_alloc | apply pw_below_drewN | apply below_drew1) | exact HB.out)) hb); clear HB; have HB := n0_; clear n0_; (try clear hb); (try clear hb2); (try clear hk); (try clear hi))))
    (try simp only [Act.put, List.setIfInBounds_toArray, List.set_cons_zero, List.set_cons_succ])
    go_cut [23] (fun v23 wc => ∃ (kq : Nat) (x23_4 : Bool), v23 = .bool x23_4 ∧ Aside0 (reveillelaw5_LineWords.j0 kq l0 l1 x23_4 = some r) ∧ Aside0 (kq ≤ k) ∧ Aside0 (Below w.heap.size w wc))
    case first =>
      have H := HC5.out
      clear HC5
      replace H := Option.bind_eq_some_iff.mp H
      obtain ⟨t156, A70, H⟩ := H
      replace H : (if t156 = true then (reveillelaw5_LineWords.j0 k l0 l1 (decide ((l1.length : Int) < (wrap64 ((l0.length : Int) + 1))))) else (reveillelaw5_LineWords.j0 k l0 l1 true)) = some r := H
      have A7 := Aside0.mk A70
      clear A70
      by_cases c8 : t156 = true
      · subst c8
        have H1 : (reveillelaw5_LineWords.j0 k l0 l1 (decide ((l1.length : Int) < (wrap64 ((l0.length : Int) + 1))))) = some r := by rw [if_pos rfl] at H; exact H
        clear H
        have H := H1
        clear H1
        have H' := Aside0.mk H
        clear H
        go_wp2_with (first | (go_at_call 12; (with_reducible refine (reveillehelp_Short.calls k _ _ l0 20 40 true _ ?side1 ?side2 A7.out).mono ?_); (case side1 => repeat (first | exact (Kd.C_below HR0.out HB.out) | (with_reducible refine Kd.C_alloc ?_ _) | (with_reducible refine Kd.C_drewN ?_ _) | (with_reducible refine Kd.C_drew ?_))); (case side2 => exact HC0.out); rintro e w' ⟨rfl, ⟨nd, rfl⟩⟩; (try first | exact ⟨rfl, _, World.drewN_drewN _ _ _⟩ | exact ⟨rfl, _, Eq.trans (World.drewN_drewN _ _ _) (congrArg (World.drewN _) (Nat.add_assoc _ _ _))⟩)))
        repeat (go_quiet (first | (go_at_call 12; (with_reducible refine (reveillehelp_Short.calls k _ _ l0 20 40 true _ ?side1 ?side2 A7.out).mono ?_); (case side1 => repeat (first | exact (Kd.C_below HR0.out HB.out) | (with_reducible refine Kd.C_alloc ?_ _) | (with_reducible refine Kd.C_drewN ?_ _) | (with_reducible refine Kd.C_drew ?_))); (case side2 => exact HC0.out); rintro e w' ⟨rfl, ⟨nd, rfl⟩⟩; (try first | exact ⟨rfl, _, World.drewN_drewN _ _ _⟩ | exact ⟨rfl, _, Eq.trans (World.drewN_drewN _ _ _) (congrArg (World.drewN _) (Nat.add_assoc _ _ _))⟩))); try go_wp2_with (first | (go_at_call 12; (with_reducible refine (reveillehelp_Short.calls k _ _ l0 20 40 true _ ?side1 ?side2 A7.out).mono ?_); (case side1 => repeat (first | exact (Kd.C_below HR0.out HB.out) | (with_reducible refine Kd.C_alloc ?_ _) | (with_reducible refine Kd.C_drewN ?_ _) | (with_reducible refine Kd.C_drew ?_))); (case side2 => exact HC0.out); rintro e w' ⟨rfl, ⟨nd, rfl⟩⟩; (try first | exact ⟨rfl, _, World.drewN_drewN _ _ _⟩ | exact ⟨rfl, _, Eq.trans (World.drewN_drewN _ _ _) (congrArg (World.drewN _) (Nat.add_assoc _ _ _))⟩))))
        go_meet
        case rel => exact ⟨_, (decide ((l1.length : Int) < (wrap64 ((l0.length : Int) + 1)))), (by first | rfl | (simp; done) | (simp [*]; done)), H', ⟨by first | omega | exact Nat.le_refl _⟩, ⟨by repeat (first | (with_reducible first | exact HB.out | apply below_alloc | apply pw_below_drewN | apply below_drew1) | exact HB.out)⟩⟩
      · replace c8 := Bool.eq_false_iff.mpr c8
        subst c8
        have H1 : (reveillelaw5_LineWords.j0 k l0 l1 true) = some r := by rw [if_neg (show ¬ (false = true) by decide)] at H; exact H
        clear H
        have H := H1
        clear H1
        have H' := Aside0.mk H
        clear H
        go_wp2_with (first | (go_at_call 12; (with_reducible refine (reveillehelp_Short.calls k _ _ l0 20 40 false _ ?side1 ?side2 A7.out).mono ?_); (case side1 => repeat (first | exact (Kd.C_below HR0.out HB.out) | (with_reducible refine Kd.C_alloc ?_ _) | (with_reducible refine Kd.C_drewN ?_ _) | (with_reducible refine Kd.C_drew ?_))); (case side2 => exact HC0.out); rintro e w' ⟨rfl, ⟨nd, rfl⟩⟩; (try first | exact ⟨rfl, _, World.drewN_drewN _ _ _⟩ | exact ⟨rfl, _, Eq.trans (World.drewN_drewN _ _ _) (congrArg (World.drewN _) (Nat.add_assoc _ _ _))⟩)))
        repeat (go_quiet (first | (go_at_call 12; (with_reducible refine (reveillehelp_Short.calls k _ _ l0 20 40 false _ ?side1 ?side2 A7.out).mono ?_); (case side1 => repeat (first | exact (Kd.C_below HR0.out HB.out) | (with_reducible refine Kd.C_alloc ?_ _) | (with_reducible refine Kd.C_drewN ?_ _) | (with_reducible refine Kd.C_drew ?_))); (case side2 => exact HC0.out); rintro e w' ⟨rfl, ⟨nd, rfl⟩⟩; (try first | exact ⟨rfl, _, World.drewN_drewN _ _ _⟩ | exact ⟨rfl, _, Eq.trans (World.drewN_drewN _ _ _) (congrArg (World.drewN _) (Nat.add_assoc _ _ _))⟩))); try go_wp2_with (first | (go_at_call 12; (with_reducible refine (reveillehelp_Short.calls k _ _ l0 20 40 false _ ?side1 ?side2 A7.out).mono ?_); (case side1 => repeat (first | exact (Kd.C_below HR0.out HB.out) | (with_reducible refine Kd.C_alloc ?_ _) | (with_reducible refine Kd.C_drewN ?_ _) | (with_reducible refine Kd.C_drew ?_))); (case side2 => exact HC0.out); rintro e w' ⟨rfl, ⟨nd, rfl⟩⟩; (try first | exact ⟨rfl, _, World.drewN_drewN _ _ _⟩ | exact ⟨rfl, _, Eq.trans (World.drewN_drewN _ _ _) (congrArg (World.drewN _) (Nat.add_assoc _ _ _))⟩))))
        go_meet
        case rel => exact ⟨_, (true), (by first | rfl | (simp; done) | (simp [*]; done)), H', ⟨by first | omega | exact Nat.le_refl _⟩, ⟨by repeat (first | (with_reducible first | exact HB.out | apply below_alloc | apply pw_below_drewN | apply below_drew1) | exact HB.out)⟩⟩
    case rest =>
      clear HC5
      try clear c1
      try clear p2
      try clear c4
      try clear c5
      try clear p6
      try clear c8
      obtain ⟨kq, x23_4, rfl, HA, HJ4, HB⟩ := hcut
      cases kq with
      | zero => exact absurd HA.out (by simp [reveillelaw5_LineWords.j0])
      | succ kj4 =>
        have H := HA.out
        clear HA
        simp only [reveillelaw5_LineWords.j0] at H
        by_cases c9 : x23_4 = true
        · subst c9
          have H1 : (some true) = some r := by rw [if_pos rfl] at H; exact H
          clear H
          have H := H1
          clear H1
          obtain rfl := Option.some.inj H
          go_wp2
          repeat (go_quiet (fail); try go_wp2)
          go_ret
          exact ⟨by first | rfl | (simp [errW_none, errW_some] <;> rfl) | (simp [*, errW_none, errW_some] <;> rfl), by repeat (first | (with_reducible first | exact HB.out | apply below_alloc | apply pw_below_drewN | apply below_drew1) | exact HB.out)⟩
        · replace c9 := Bool.eq_false_iff.mpr c9
          subst c9
          have H1 : (if 0 < (l1.length : Int) then ((blk_.f (Int.tmod (rd l1 0) 4)).bind fun t158 => (reveillelaw5_LineWords.l0 kj4 l0 l1 t158 0)) else (none)) = some r := by rw [if_neg (show ¬ (false = true) by decide)] at H; exact H
          clear H
          have H := H1
          clear H1
          by_cases c10 : 0 < (l1.length : Int)
          · rw [if_pos c10] at H
            have c10b0 : decide (0 < (l1.length : Int)) = true := decide_eq_true c10
            have c10b1 : decide (0 < l1.length) = true := decide_eq_true (by omega)
            clear c10
            replace H := Option.bind_eq_some_iff.mp H
            obtain ⟨t158, A110, H⟩ := H
            replace H : (reveillelaw5_LineWords.l0 kj4 l0 l1 t158 0) = some r := H
            have A11 := Aside0.mk A110
            clear A110
            have H' := Aside0.mk H
            clear H
            have p157 : 0 ≤ (0 : Int) := (by omega)
            have q157 : 0 < (l1.length : Int) := of_decide_eq_true (by first | (with_reducible assumption) | assumption)
            obtain ⟨ad157, e157, hx157_0⟩ := Kd.at_int HR1.out 0 p157 q157
            cases e157
            have qi157 : (0 < l1.length) = True := eq_true (by omega)
            (try rw [show ((0 : Int)).toNat = 0 from rfl] at hx157_0)
            (try rw [Addr.add_zero'] at hx157_0)
            replace hx157_0 := (HB.out.cell (World.block_lt_of_cell? w _ hx157_0)).trans hx157_0
            replace p157 := eq_true p157
            replace q157 := eq_true q157
            have hal : ∀ o, (wc.alloc o).cell? ad157 = some (.int .u8 (rd l1 0)) := fun o => (((Below.refl wc.heap.size wc).alloc (Nat.le_refl _) o).cell (World.block_lt_of_cell? wc _ hx157_0)).trans hx157_0
            have A11' := A11.out
            clear A11
            obtain ⟨z, hz⟩ : ∃ z, (rd l1 0).tmod 4 = z := ⟨_, rfl⟩
            rw [hz] at A11'
            injection A11' with A11'
            subst A11'
            have hzr := rd_mod l1 HRG.out 0
            rw [hz] at hzr
            have hz0 := hzr.1
            have hz4 := hzr.2
            have HZ := Aside0.mk hzr
            go_wp2_with (fail)
            go_loopg [6, 7] kj4 (fun kq v6 v7 w' => ∃ (x6_2 : ByteArray) (x7_2 : Int), v6 = .string x6_2 ∧ v7 = .int .i64 x7_2 ∧ Aside0 (reveillelaw5_LineWords.l0 kq l0 l1 x6_2 x7_2 = some r) ∧ Aside0 (kq ≤ kj4) ∧ Aside0 (Below w.heap.size w w') ∧ Aside0 (Below (wc.heap.size + 1) (wc.alloc blkO) w'))
            case atStart => exact ⟨(blk z), (0), (by first | rfl | exact blk_get z HZ.out.1 HZ.out.2 _ | (simp; done)), (by first | rfl | (simp; done) | (simp [*]; done)), H', ⟨Nat.le_refl _⟩, ⟨by repeat (first | (with_reducible first | exact HB.out | apply below_alloc | apply pw_below_drewN | apply below_drew1) | exact HB.out)⟩, ⟨by repeat (first | (with_reducible first | exact Below.refl _ _ | apply pw_below_drewN | apply below_drew1) | exact Below.refl _ _)⟩⟩
            case round =>
              clear H'
              try clear c1
              try clear p1
              try clear q1
              try clear hx1
              try clear qi1
              try clear p2
              try clear c4
              try clear c5
              try clear p6
              try clear c8
              try clear c9
              try clear c10
              try clear c10b0
              try clear c10b1
              try clear hx157_0
              try clear p157
              try clear p2
              try clear p6
              try clear q157
              obtain ⟨x6_2, x7_2, rfl, rfl, HA, HK2, HB, HB2⟩ := hrel
              cases gk with
              | zero => exact absurd HA.out (by simp [reveillelaw5_LineWords.l0])
              | succ k2 =>
                have H := HA.out
                clear HA
                simp only [reveillelaw5_LineWords.l0] at H
                by_cases c12 : x7_2 < (l0.length : Int)
                · rw [if_pos c12] at H
                  have c12b0 : decide (x7_2 < (l0.length : Int)) = true := decide_eq_true c12
                  clear c12
                  have H' := Aside0.mk H
                  clear H
                  go_wp2
                  repeat (go_quiet (fail); try go_wp2)
                  go_loopg [8] k2 (fun kq v8 w' => ∃ (x8_3 : Int), v8 = .int .i64 x8_3 ∧ Aside0 (reveillelaw5_LineWords.l1 kq l0 l1 x6_2 x7_2 x8_3 = some r) ∧ Aside0 (kq ≤ k2) ∧ Aside0 (Below w.heap.size w w') ∧ Aside0 (Below (wc.heap.size + 1) (wc.alloc blkO) w'))
                  case atStart => exact ⟨(0), (by first | rfl | (simp; done) | (simp [*]; done)), H', ⟨Nat.le_refl _⟩, ⟨by repeat (first | (with_reducible first | exact HB.out | apply below_alloc | apply pw_below_drewN | apply below_drew1) | exact HB.out)⟩, ⟨by repeat (first | (with_reducible first | exact HB2.out | apply below_alloc | apply pw_below_drewN | apply below_drew1) | exact HB2.out)⟩⟩
                  case round =>
                    clear H'
                    try clear c1
                    try clear p1
                    try clear q1
                    try clear hx1
                    try clear qi1
                    try clear p2
                    try clear c4
                    try clear c5
                    try clear p6
                    try clear c8
                    try clear c9
                    try clear c10
                    try clear c10b0
                    try clear c10b1
                    try clear c12
                    try clear c12b0
                    try clear hx157_0
                    try clear p1
                    try clear p157
                    try clear p2
                    try clear p6
                    try clear q1
                    try clear q157
                    obtain ⟨x8_3, rfl, HA, HK3, HB, HB2⟩ := hrel
                    cases gk with
                    | zero => exact absurd HA.out (by simp [reveillelaw5_LineWords.l1])
                    | succ k3 =>
                      have H := HA.out
                      clear HA
                      simp only [reveillelaw5_LineWords.l1] at H
                      by_cases c13 : 0 ≤ x7_2
                      · rw [if_pos c13] at H
                        have c13b0 : decide (0 ≤ x7_2) = true := decide_eq_true c13
                        clear c13
                        by_cases c14 : x7_2 < (l0.length : Int)
                        · rw [if_pos c14] at H
                          have c14b0 : decide (x7_2 < (l0.length : Int)) = true := decide_eq_true c14
                          clear c14
                          by_cases c15 : x8_3 < ((rdOf ByteArray.empty l0 x7_2).size : Int)
                          · rw [if_pos c15] at H
                            have c15b0 : decide (x8_3 < ((rdOf ByteArray.empty l0 x7_2).size : Int)) = true := decide_eq_true c15
                            clear c15
                            by_cases c16 : 0 ≤ x8_3
                            · rw [if_pos c16] at H
                              have c16b0 : decide (0 ≤ x8_3) = true := decide_eq_true c16
                              clear c16
                              by_cases c18 : (bt (rdOf ByteArray.empty l0 x7_2) x8_3) = 32
                              · rw [if_pos c18] at H
                                have c18b0 : ((bt (rdOf ByteArray.empty l0 x7_2) x8_3) == 32) = true := beq_iff_eq.mpr c18
                                have c18b1 : ((bt (rdOf ByteArray.empty l0 x7_2) x8_3) != 32) = false := bne_eq_false_iff_eq.mpr c18
                                clear c18
                                obtain rfl := Option.some.inj H
                                have p164 : 0 ≤ (x7_2 : Int) := of_decide_eq_true (by first | (with_reducible assumption) | assumption)
                                have q164 : x7_2 < (l0.length : Int) := of_decide_eq_true (by first | (with_reducible assumption) | assumption)
                                obtain ⟨ad164, e164, hx164_0⟩ := Kd.at_string HR0.out x7_2 p164 q164
                                cases e164
                                replace hx164_0 := (HB.out.cell (World.block_lt_of_cell? w _ hx164_0)).trans hx164_0
                                replace p164 := eq_true p164
                                replace q164 := eq_true q164
                                have p165 : 0 ≤ (x7_2 : Int) := of_decide_eq_true (by first | (with_reducible assumption) | assumption)
                                have q165 : x7_2 < (l0.length : Int) := of_decide_eq_true (by first | (with_reducible assumption) | assumption)
                                obtain ⟨ad165, e165, hx165_0⟩ := Kd.at_string HR0.out x7_2 p165 q165
                                obtain rfl : ad164 = ad165 := (by injection e165)
                                replace hx165_0 := (HB.out.cell (World.block_lt_of_cell? w _ hx165_0)).trans hx165_0
                                replace p165 := eq_true p165
                                replace q165 := eq_true q165
                                have p17 : 0 ≤ (x8_3 : Int) := of_decide_eq_true (by first | (with_reducible assumption) | assumption)
                                have q17 : x8_3 < ((rdOf ByteArray.empty l0 x7_2).size : Int) := of_decide_eq_true (by first | (with_reducible assumption) | assumption)
                                have hx17 := bt_at (rdOf ByteArray.empty l0 x7_2) x8_3
                                replace p17 := eq_true p17
                                replace q17 := eq_true q17
                                go_wp2
                                repeat (go_quiet (fail); try go_wp2)
                                go_ret
                                exact ⟨by first | rfl | (simp [errW_none, errW_some] <;> rfl) | (simp [*, errW_none, errW_some] <;> rfl), by repeat (first | (with_reducible first | exact HB.out | apply below_alloc | apply pw_below_drewN | apply below_drew1) | exact HB.out)⟩
                              · rw [if_neg c18] at H
                                have c18b0 : ((bt (rdOf ByteArray.empty l0 x7_2) x8_3) == 32) = false := beq_eq_false_iff_ne.mpr c18
                                have c18b1 : ((bt (rdOf ByteArray.empty l0 x7_2) x8_3) != 32) = true := bne_iff_ne.mpr c18
                                by_cases c20 : (bt (rdOf ByteArray.empty l0 x7_2) x8_3) = 9
                                · rw [if_pos c20] at H
                                  have c20b0 : ((bt (rdOf ByteArray.empty l0 x7_2) x8_3) == 9) = true := beq_iff_eq.mpr c20
                                  have c20b1 : ((bt (rdOf ByteArray.empty l0 x7_2) x8_3) != 9) = false := bne_eq_false_iff_eq.mpr c20
                                  clear c20
                                  obtain rfl := Option.some.inj H
                                  have p164 : 0 ≤ (x7_2 : Int) := of_decide_eq_true (by first | (with_reducible assumption) | assumption)
                                  have q164 : x7_2 < (l0.length : Int) := of_decide_eq_true (by first | (with_reducible assumption) | assumption)
                                  obtain ⟨ad164, e164, hx164_0⟩ := Kd.at_string HR0.out x7_2 p164 q164
                                  cases e164
                                  replace hx164_0 := (HB.out.cell (World.block_lt_of_cell? w _ hx164_0)).trans hx164_0
                                  replace p164 := eq_true p164
                                  replace q164 := eq_true q164
                                  have p165 : 0 ≤ (x7_2 : Int) := of_decide_eq_true (by first | (with_reducible assumption) | assumption)
                                  have q165 : x7_2 < (l0.length : Int) := of_decide_eq_true (by first | (with_reducible assumption) | assumption)
                                  obtain ⟨ad165, e165, hx165_0⟩ := Kd.at_string HR0.out x7_2 p165 q165
                                  obtain rfl : ad164 = ad165 := (by injection e165)
                                  replace hx165_0 := (HB.out.cell (World.block_lt_of_cell? w _ hx165_0)).trans hx165_0
                                  replace p165 := eq_true p165
                                  replace q165 := eq_true q165
                                  have p17 : 0 ≤ (x8_3 : Int) := of_decide_eq_true (by first | (with_reducible assumption) | assumption)
                                  have q17 : x8_3 < ((rdOf ByteArray.empty l0 x7_2).size : Int) := of_decide_eq_true (by first | (with_reducible assumption) | assumption)
                                  have hx17 := bt_at (rdOf ByteArray.empty l0 x7_2) x8_3
                                  replace p17 := eq_true p17
                                  replace q17 := eq_true q17
                                  have p166 : 0 ≤ (x7_2 : Int) := of_decide_eq_true (by first | (with_reducible assumption) | assumption)
                                  have q166 : x7_2 < (l0.length : Int) := of_decide_eq_true (by first | (with_reducible assumption) | assumption)
                                  obtain ⟨ad166, e166, hx166_0⟩ := Kd.at_string HR0.out x7_2 p166 q166
                                  obtain rfl : ad164 = ad166 := (by injection e166)
                                  replace hx166_0 := (HB.out.cell (World.block_lt_of_cell? w _ hx166_0)).trans hx166_0
                                  replace p166 := eq_true p166
                                  replace q166 := eq_true q166
                                  have p19 : 0 ≤ (x8_3 : Int) := of_decide_eq_true (by first | (with_reducible assumption) | assumption)
                                  have q19 : x8_3 < ((rdOf ByteArray.empty l0 x7_2).size : Int) := of_decide_eq_true (by first | (with_reducible assumption) | assumption)
                                  have hx19 := bt_at (rdOf ByteArray.empty l0 x7_2) x8_3
                                  replace p19 := eq_true p19
                                  replace q19 := eq_true q19
                                  go_wp2
                                  repeat (go_quiet (fail); try go_wp2)
                                  go_ret
                                  exact ⟨by first | rfl | (simp [errW_none, errW_some] <;> rfl) | (simp [*, errW_none, errW_some] <;> rfl), by repeat (first | (with_reducible first | exact HB.out | apply below_alloc | apply pw_below_drewN | apply below_drew1) | exact HB.out)⟩
                                · rw [if_neg c20] at H
                                  have c20b0 : ((bt (rdOf ByteArray.empty l0 x7_2) x8_3) == 9) = false := beq_eq_false_iff_ne.mpr c20
                                  have c20b1 : ((bt (rdOf ByteArray.empty l0 x7_2) x8_3) != 9) = true := bne_iff_ne.mpr c20
                                  have H' := Aside0.mk H
                                  clear H
                                  have p164 : 0 ≤ (x7_2 : Int) := of_decide_eq_true (by first | (with_reducible assumption) | assumption)
                                  have q164 : x7_2 < (l0.length : Int) := of_decide_eq_true (by first | (with_reducible assumption) | assumption)
                                  obtain ⟨ad164, e164, hx164_0⟩ := Kd.at_string HR0.out x7_2 p164 q164
                                  cases e164
                                  replace hx164_0 := (HB.out.cell (World.block_lt_of_cell? w _ hx164_0)).trans hx164_0
                                  replace p164 := eq_true p164
                                  replace q164 := eq_true q164
                                  have p165 : 0 ≤ (x7_2 : Int) := of_decide_eq_true (by first | (with_reducible assumption) | assumption)
                                  have q165 : x7_2 < (l0.length : Int) := of_decide_eq_true (by first | (with_reducible assumption) | assumption)
                                  obtain ⟨ad165, e165, hx165_0⟩ := Kd.at_string HR0.out x7_2 p165 q165
                                  obtain rfl : ad164 = ad165 := (by injection e165)
                                  replace hx165_0 := (HB.out.cell (World.block_lt_of_cell? w _ hx165_0)).trans hx165_0
                                  replace p165 := eq_true p165
                                  replace q165 := eq_true q165
                                  have p17 : 0 ≤ (x8_3 : Int) := of_decide_eq_true (by first | (with_reducible assumption) | assumption)
                                  have q17 : x8_3 < ((rdOf ByteArray.empty l0 x7_2).size : Int) := of_decide_eq_true (by first | (with_reducible assumption) | assumption)
                                  have hx17 := bt_at (rdOf ByteArray.empty l0 x7_2) x8_3
                                  replace p17 := eq_true p17
                                  replace q17 := eq_true q17
                                  have p166 : 0 ≤ (x7_2 : Int) := of_decide_eq_true (by first | (with_reducible assumption) | assumption)
                                  have q166 : x7_2 < (l0.length : Int) := of_decide_eq_true (by first | (with_reducible assumption) | assumption)
                                  obtain ⟨ad166, e166, hx166_0⟩ := Kd.at_string HR0.out x7_2 p166 q166
                                  obtain rfl : ad164 = ad166 := (by injection e166)
                                  replace hx166_0 := (HB.out.cell (World.block_lt_of_cell? w _ hx166_0)).trans hx166_0
                                  replace p166 := eq_true p166
                                  replace q166 := eq_true q166
                                  have p19 : 0 ≤ (x8_3 : Int) := of_decide_eq_true (by first | (with_reducible assumption) | assumption)
                                  have q19 : x8_3 < ((rdOf ByteArray.empty l0 x7_2).size : Int) := of_decide_eq_true (by first | (with_reducible assumption) | assumption)
                                  have hx19 := bt_at (rdOf ByteArray.empty l0 x7_2) x8_3
                                  replace p19 := eq_true p19
                                  replace q19 := eq_true q19
                                  go_wp2
                                  repeat (go_quiet (fail); try go_wp2)
                                  go_roundg k3
                                  case measure => have := HJ4.out; have := HK2.out; have := HK3.out; omega
                                  case rel => exact ⟨(wrap64 (x8_3 + 1)), (by first | rfl | (simp; done) | (simp [*]; done)), H', ⟨by have := HJ4.out; have := HK2.out; have := HK3.out; omega⟩, ⟨by repeat (first | (with_reducible first | exact HB.out | apply below_alloc | apply pw_below_drewN | apply below_drew1) | exact HB.out)⟩, ⟨by repeat (first | (with_reducible first | exact HB2.out | apply below_alloc | apply pw_below_drewN | apply below_drew1) | exact HB2.out)⟩⟩
                            · rw [if_neg c16] at H
                              exact absurd H (by simp)
                          · rw [if_neg c15] at H
                            have c15b0 : decide (x8_3 < ((rdOf ByteArray.empty l0 x7_2).size : Int)) = false := decide_eq_false c15
                            clear c15
                            by_cases c21 : (rdOf ByteArray.empty l0 x7_2).toList = ([] : List UInt8)
                            · rw [if_pos c21] at H
                              have c21b0 : ((rdOf ByteArray.empty l0 x7_2).toList == ([] : List UInt8)) = true := beq_iff_eq.mpr c21
                              have c21b1 : ((rdOf ByteArray.empty l0 x7_2).toList != ([] : List UInt8)) = false := bne_eq_false_iff_eq.mpr c21
                              clear c21
                              obtain rfl := Option.some.inj H
                              have p164 : 0 ≤ (x7_2 : Int) := of_decide_eq_true (by first | (with_reducible assumption) | assumption)
                              have q164 : x7_2 < (l0.length : Int) := of_decide_eq_true (by first | (with_reducible assumption) | assumption)
                              obtain ⟨ad164, e164, hx164_0⟩ := Kd.at_string HR0.out x7_2 p164 q164
                              cases e164
                              replace hx164_0 := (HB.out.cell (World.block_lt_of_cell? w _ hx164_0)).trans hx164_0
                              replace p164 := eq_true p164
                              replace q164 := eq_true q164
                              have p167 : 0 ≤ (x7_2 : Int) := of_decide_eq_true (by first | (with_reducible assumption) | assumption)
                              have q167 : x7_2 < (l0.length : Int) := of_decide_eq_true (by first | (with_reducible assumption) | assumption)
                              obtain ⟨ad167, e167, hx167_0⟩ := Kd.at_string HR0.out x7_2 p167 q167
                              obtain rfl : ad164 = ad167 := (by injection e167)
                              replace hx167_0 := (HB.out.cell (World.block_lt_of_cell? w _ hx167_0)).trans hx167_0
                              replace p167 := eq_true p167
                              replace q167 := eq_true q167
                              go_wp2
                              repeat (go_quiet (fail); try go_wp2)
                              go_ret
                              exact ⟨by first | rfl | (simp [errW_none, errW_some] <;> rfl) | (simp [*, errW_none, errW_some] <;> rfl), by repeat (first | (with_reducible first | exact HB.out | apply below_alloc | apply pw_below_drewN | apply below_drew1) | exact HB.out)⟩
                            · rw [if_neg c21] at H
                              have c21b0 : ((rdOf ByteArray.empty l0 x7_2).toList == ([] : List UInt8)) = false := beq_eq_false_iff_ne.mpr c21
                              have c21b1 : ((rdOf ByteArray.empty l0 x7_2).toList != ([] : List UInt8)) = true := bne_iff_ne.mpr c21
                              by_cases c22 : 0 < ((rdOf ByteArray.empty l0 x7_2).size : Int)
                              · rw [if_pos c22] at H
                                have c22b0 : decide (0 < ((rdOf ByteArray.empty l0 x7_2).size : Int)) = true := decide_eq_true c22
                                have c22b1 : decide (0 < (rdOf ByteArray.empty l0 x7_2).size) = true := decide_eq_true (by omega)
                                clear c22
                                by_cases c24 : (bt (rdOf ByteArray.empty l0 x7_2) 0) = 34
                                · rw [if_pos c24] at H
                                  have c24b0 : ((bt (rdOf ByteArray.empty l0 x7_2) 0) == 34) = true := beq_iff_eq.mpr c24
                                  have c24b1 : ((bt (rdOf ByteArray.empty l0 x7_2) 0) != 34) = false := bne_eq_false_iff_eq.mpr c24
                                  clear c24
                                  obtain rfl := Option.some.inj H
                                  have p164 : 0 ≤ (x7_2 : Int) := of_decide_eq_true (by first | (with_reducible assumption) | assumption)
                                  have q164 : x7_2 < (l0.length : Int) := of_decide_eq_true (by first | (with_reducible assumption) | assumption)
                                  obtain ⟨ad164, e164, hx164_0⟩ := Kd.at_string HR0.out x7_2 p164 q164
                                  cases e164
                                  replace hx164_0 := (HB.out.cell (World.block_lt_of_cell? w _ hx164_0)).trans hx164_0
                                  replace p164 := eq_true p164
                                  replace q164 := eq_true q164
                                  have p167 : 0 ≤ (x7_2 : Int) := of_decide_eq_true (by first | (with_reducible assumption) | assumption)
                                  have q167 : x7_2 < (l0.length : Int) := of_decide_eq_true (by first | (with_reducible assumption) | assumption)
                                  obtain ⟨ad167, e167, hx167_0⟩ := Kd.at_string HR0.out x7_2 p167 q167
                                  obtain rfl : ad164 = ad167 := (by injection e167)
                                  replace hx167_0 := (HB.out.cell (World.block_lt_of_cell? w _ hx167_0)).trans hx167_0
                                  replace p167 := eq_true p167
                                  replace q167 := eq_true q167
                                  have p168 : 0 ≤ (x7_2 : Int) := of_decide_eq_true (by first | (with_reducible assumption) | assumption)
                                  have q168 : x7_2 < (l0.length : Int) := of_decide_eq_true (by first | (with_reducible assumption) | assumption)
                                  obtain ⟨ad168, e168, hx168_0⟩ := Kd.at_string HR0.out x7_2 p168 q168
                                  obtain rfl : ad164 = ad168 := (by injection e168)
                                  replace hx168_0 := (HB.out.cell (World.block_lt_of_cell? w _ hx168_0)).trans hx168_0
                                  replace p168 := eq_true p168
                                  replace q168 := eq_true q168
                                  have p23 : 0 ≤ (0 : Int) := (by omega)
                                  have q23 : 0 < (rdOf ByteArray.empty l0 x7_2).size := (by have : (0 : Int) < ((rdOf ByteArray.empty l0 x7_2).size : Int) := of_decide_eq_true (by first | (with_reducible assumption) | assumption); omega)
                                  have hx23 : ∀ h : 0 < (rdOf ByteArray.empty l0 x7_2).size, (((rdOf ByteArray.empty l0 x7_2)[0]'h).toNat : Int) = bt (rdOf ByteArray.empty l0 x7_2) 0 := bt_at (rdOf ByteArray.empty l0 x7_2) 0
                                  clear p23
                                  have qi23 : (0 < ((rdOf ByteArray.empty l0 x7_2).size : Int)) = True := eq_true (of_decide_eq_true (by first | (with_reducible assumption) | assumption))
                                  replace q23 := eq_true q23
                                  go_wp2
                                  repeat (go_quiet (fail); try go_wp2)
                                  go_ret
                                  exact ⟨by first | rfl | (simp [errW_none, errW_some] <;> rfl) | (simp [*, errW_none, errW_some] <;> rfl), by repeat (first | (with_reducible first | exact HB.out | apply below_alloc | apply pw_below_drewN | apply below_drew1) | exact HB.out)⟩
                                · rw [if_neg c24] at H
                                  have c24b0 : ((bt (rdOf ByteArray.empty l0 x7_2) 0) == 34) = false := beq_eq_false_iff_ne.mpr c24
                                  have c24b1 : ((bt (rdOf ByteArray.empty l0 x7_2) 0) != 34) = true := bne_iff_ne.mpr c24
                                  by_cases c26 : (bt (rdOf ByteArray.empty l0 x7_2) 0) = 39
                                  · rw [if_pos c26] at H
                                    have c26b0 : ((bt (rdOf ByteArray.empty l0 x7_2) 0) == 39) = true := beq_iff_eq.mpr c26
                                    have c26b1 : ((bt (rdOf ByteArray.empty l0 x7_2) 0) != 39) = false := bne_eq_false_iff_eq.mpr c26
                                    clear c26
                                    obtain rfl := Option.some.inj H
                                    have p164 : 0 ≤ (x7_2 : Int) := of_decide_eq_true (by first | (with_reducible assumption) | assumption)
                                    have q164 : x7_2 < (l0.length : Int) := of_decide_eq_true (by first | (with_reducible assumption) | assumption)
                                    obtain ⟨ad164, e164, hx164_0⟩ := Kd.at_string HR0.out x7_2 p164 q164
                                    cases e164
                                    replace hx164_0 := (HB.out.cell (World.block_lt_of_cell? w _ hx164_0)).trans hx164_0
                                    replace p164 := eq_true p164
                                    replace q164 := eq_true q164
                                    have p167 : 0 ≤ (x7_2 : Int) := of_decide_eq_true (by first | (with_reducible assumption) | assumption)
                                    have q167 : x7_2 < (l0.length : Int) := of_decide_eq_true (by first | (with_reducible assumption) | assumption)
                                    obtain ⟨ad167, e167, hx167_0⟩ := Kd.at_string HR0.out x7_2 p167 q167
                                    obtain rfl : ad164 = ad167 := (by injection e167)
                                    replace hx167_0 := (HB.out.cell (World.block_lt_of_cell? w _ hx167_0)).trans hx167_0
                                    replace p167 := eq_true p167
                                    replace q167 := eq_true q167
                                    have p168 : 0 ≤ (x7_2 : Int) := of_decide_eq_true (by first | (with_reducible assumption) | assumption)
                                    have q168 : x7_2 < (l0.length : Int) := of_decide_eq_true (by first | (with_reducible assumption) | assumption)
                                    obtain ⟨ad168, e168, hx168_0⟩ := Kd.at_string HR0.out x7_2 p168 q168
                                    obtain rfl : ad164 = ad168 := (by injection e168)
                                    replace hx168_0 := (HB.out.cell (World.block_lt_of_cell? w _ hx168_0)).trans hx168_0
                                    replace p168 := eq_true p168
                                    replace q168 := eq_true q168
                                    have p23 : 0 ≤ (0 : Int) := (by omega)
                                    have q23 : 0 < (rdOf ByteArray.empty l0 x7_2).size := (by have : (0 : Int) < ((rdOf ByteArray.empty l0 x7_2).size : Int) := of_decide_eq_true (by first | (with_reducible assumption) | assumption); omega)
                                    have hx23 : ∀ h : 0 < (rdOf ByteArray.empty l0 x7_2).size, (((rdOf ByteArray.empty l0 x7_2)[0]'h).toNat : Int) = bt (rdOf ByteArray.empty l0 x7_2) 0 := bt_at (rdOf ByteArray.empty l0 x7_2) 0
                                    clear p23
                                    have qi23 : (0 < ((rdOf ByteArray.empty l0 x7_2).size : Int)) = True := eq_true (of_decide_eq_true (by first | (with_reducible assumption) | assumption))
                                    replace q23 := eq_true q23
                                    have p169 : 0 ≤ (x7_2 : Int) := of_decide_eq_true (by first | (with_reducible assumption) | assumption)
                                    have q169 : x7_2 < (l0.length : Int) := of_decide_eq_true (by first | (with_reducible assumption) | assumption)
                                    obtain ⟨ad169, e169, hx169_0⟩ := Kd.at_string HR0.out x7_2 p169 q169
                                    obtain rfl : ad164 = ad169 := (by injection e169)
                                    replace hx169_0 := (HB.out.cell (World.block_lt_of_cell? w _ hx169_0)).trans hx169_0
                                    replace p169 := eq_true p169
                                    replace q169 := eq_true q169
                                    have p25 : 0 ≤ (0 : Int) := (by omega)
                                    have q25 : 0 < (rdOf ByteArray.empty l0 x7_2).size := (by have : (0 : Int) < ((rdOf ByteArray.empty l0 x7_2).size : Int) := of_decide_eq_true (by first | (with_reducible assumption) | assumption); omega)
                                    have hx25 : ∀ h : 0 < (rdOf ByteArray.empty l0 x7_2).size, (((rdOf ByteArray.empty l0 x7_2)[0]'h).toNat : Int) = bt (rdOf ByteArray.empty l0 x7_2) 0 := bt_at (rdOf ByteArray.empty l0 x7_2) 0
                                    clear p25
                                    have qi25 : (0 < ((rdOf ByteArray.empty l0 x7_2).size : Int)) = True := eq_true (of_decide_eq_true (by first | (with_reducible assumption) | assumption))
                                    replace q25 := eq_true q25
                                    go_wp2
                                    repeat (go_quiet (fail); try go_wp2)
                                    go_ret
                                    exact ⟨by first | rfl | (simp [errW_none, errW_some] <;> rfl) | (simp [*, errW_none, errW_some] <;> rfl), by repeat (first | (with_reducible first | exact HB.out | apply below_alloc | apply pw_below_drewN | apply below_drew1) | exact HB.out)⟩
                                  · rw [if_neg c26] at H
                                    have c26b0 : ((bt (rdOf ByteArray.empty l0 x7_2) 0) == 39) = false := beq_eq_false_iff_ne.mpr c26
                                    have c26b1 : ((bt (rdOf ByteArray.empty l0 x7_2) 0) != 39) = true := bne_iff_ne.mpr c26
                                    by_cases c27 : x6_2.size + (rdOf ByteArray.empty l0 x7_2).size ≤ 9223372036854775807
                                    · rw [if_pos c27] at H
                                      have c27b0 := eq_true c27
                                      have c27b1 : decide (x6_2.size + (rdOf ByteArray.empty l0 x7_2).size ≤ 9223372036854775807) = true := decide_eq_true c27
                                      try have c27b2 : (9223372036854775807 < x6_2.size + (rdOf ByteArray.empty l0 x7_2).size) = False := eq_false (Nat.not_lt.2 c27)
                                      obtain ⟨ji28, hji28⟩ : ∃ j_ : Int, (wrap64 (x7_2 + 1)) = j_ := ⟨_, rfl⟩
                                      replace H : (if 0 ≤ (ji28) then (if (ji28) < (l1.length : Int) then ((blk_.f (Int.tmod (rd l1 (ji28)) 4)).bind fun t172 => (if (x6_2 ++ (rdOf ByteArray.empty l0 x7_2)).size + t172.size ≤ 9223372036854775807 then (reveillelaw5_LineWords.l0 k3 l0 l1 ((x6_2 ++ (rdOf ByteArray.empty l0 x7_2)) ++ t172) ji28) else (none))) else (none)) else (none)) = some r := by first | (rw [hji28] at H; exact H) | (simp only [hji28] at H ⊢; exact H)
                                      have hji28w : (IntKind.i64.wrap (x7_2 + 1)) = ji28 := (i64_w _).trans hji28
                                      by_cases c29 : 0 ≤ (ji28)
                                      · rw [if_pos c29] at H
                                        have c29b0 : decide (0 ≤ (ji28)) = true := decide_eq_true c29
                                        clear c29
                                        by_cases c30 : (ji28) < (l1.length : Int)
                                        · rw [if_pos c30] at H
                                          have c30b0 : decide ((ji28) < (l1.length : Int)) = true := decide_eq_true c30
                                          clear c30
                                          replace H := Option.bind_eq_some_iff.mp H
                                          obtain ⟨t172, A310, H⟩ := H
                                          replace H : (if (x6_2 ++ (rdOf ByteArray.empty l0 x7_2)).size + t172.size ≤ 9223372036854775807 then (reveillelaw5_LineWords.l0 k3 l0 l1 ((x6_2 ++ (rdOf ByteArray.empty l0 x7_2)) ++ t172) ji28) else (none)) = some r := H
                                          have A31 := Aside0.mk A310
                                          clear A310
                                          by_cases c32 : (x6_2 ++ (rdOf ByteArray.empty l0 x7_2)).size + t172.size ≤ 9223372036854775807
                                          · rw [if_pos c32] at H
                                            have c32b0 := eq_true c32
                                            have c32b1 : decide ((x6_2 ++ (rdOf ByteArray.empty l0 x7_2)).size + t172.size ≤ 9223372036854775807) = true := decide_eq_true c32
                                            try have c32b2 : (9223372036854775807 < (x6_2 ++ (rdOf ByteArray.empty l0 x7_2)).size + t172.size) = False := eq_false (Nat.not_lt.2 c32)
                                            have H' := Aside0.mk H
                                            clear H
                                            have p164 : 0 ≤ (x7_2 : Int) := of_decide_eq_true (by first | (with_reducible assumption) | assumption)
                                            have q164 : x7_2 < (l0.length : Int) := of_decide_eq_true (by first | (with_reducible assumption) | assumption)
                                            obtain ⟨ad164, e164, hx164_0⟩ := Kd.at_string HR0.out x7_2 p164 q164
                                            cases e164
                                            replace hx164_0 := (HB.out.cell (World.block_lt_of_cell? w _ hx164_0)).trans hx164_0
                                            replace p164 := eq_true p164
                                            replace q164 := eq_true q164
                                            have p167 : 0 ≤ (x7_2 : Int) := of_decide_eq_true (by first | (with_reducible assumption) | assumption)
                                            have q167 : x7_2 < (l0.length : Int) := of_decide_eq_true (by first | (with_reducible assumption) | assumption)
                                            obtain ⟨ad167, e167, hx167_0⟩ := Kd.at_string HR0.out x7_2 p167 q167
                                            obtain rfl : ad164 = ad167 := (by injection e167)
                                            replace hx167_0 := (HB.out.cell (World.block_lt_of_cell? w _ hx167_0)).trans hx167_0
                                            replace p167 := eq_true p167
                                            replace q167 := eq_true q167
                                            have p168 : 0 ≤ (x7_2 : Int) := of_decide_eq_true (by first | (with_reducible assumption) | assumption)
                                            have q168 : x7_2 < (l0.length : Int) := of_decide_eq_true (by first | (with_reducible assumption) | assumption)
                                            obtain ⟨ad168, e168, hx168_0⟩ := Kd.at_string HR0.out x7_2 p168 q168
                                            obtain rfl : ad164 = ad168 := (by injection e168)
                                            replace hx168_0 := (HB.out.cell (World.block_lt_of_cell? w _ hx168_0)).trans hx168_0
                                            replace p168 := eq_true p168
                                            replace q168 := eq_true q168
                                            have p23 : 0 ≤ (0 : Int) := (by omega)
                                            have q23 : 0 < (rdOf ByteArray.empty l0 x7_2).size := (by have : (0 : Int) < ((rdOf ByteArray.empty l0 x7_2).size : Int) := of_decide_eq_true (by first | (with_reducible assumption) | assumption); omega)
                                            have hx23 : ∀ h : 0 < (rdOf ByteArray.empty l0 x7_2).size, (((rdOf ByteArray.empty l0 x7_2)[0]'h).toNat : Int) = bt (rdOf ByteArray.empty l0 x7_2) 0 := bt_at (rdOf ByteArray.empty l0 x7_2) 0
                                            clear p23
                                            have qi23 : (0 < ((rdOf ByteArray.empty l0 x7_2).size : Int)) = True := eq_true (of_decide_eq_true (by first | (with_reducible assumption) | assumption))
                                            replace q23 := eq_true q23
                                            have p169 : 0 ≤ (x7_2 : Int) := of_decide_eq_true (by first | (with_reducible assumption) | assumption)
                                            have q169 : x7_2 < (l0.length : Int) := of_decide_eq_true (by first | (with_reducible assumption) | assumption)
                                            obtain ⟨ad169, e169, hx169_0⟩ := Kd.at_string HR0.out x7_2 p169 q169
                                            obtain rfl : ad164 = ad169 := (by injection e169)
                                            replace hx169_0 := (HB.out.cell (World.block_lt_of_cell? w _ hx169_0)).trans hx169_0
                                            replace p169 := eq_true p169
                                            replace q169 := eq_true q169
                                            have p25 : 0 ≤ (0 : Int) := (by omega)
                                            have q25 : 0 < (rdOf ByteArray.empty l0 x7_2).size := (by have : (0 : Int) < ((rdOf ByteArray.empty l0 x7_2).size : Int) := of_decide_eq_true (by first | (with_reducible assumption) | assumption); omega)
                                            have hx25 : ∀ h : 0 < (rdOf ByteArray.empty l0 x7_2).size, (((rdOf ByteArray.empty l0 x7_2)[0]'h).toNat : Int) = bt (rdOf ByteArray.empty l0 x7_2) 0 := bt_at (rdOf ByteArray.empty l0 x7_2) 0
                                            clear p25
                                            have qi25 : (0 < ((rdOf ByteArray.empty l0 x7_2).size : Int)) = True := eq_true (of_decide_eq_true (by first | (with_reducible assumption) | assumption))
                                            replace q25 := eq_true q25
                                            have p170 : 0 ≤ (x7_2 : Int) := of_decide_eq_true (by first | (with_reducible assumption) | assumption)
                                            have q170 : x7_2 < (l0.length : Int) := of_decide_eq_true (by first | (with_reducible assumption) | assumption)
                                            obtain ⟨ad170, e170, hx170_0⟩ := Kd.at_string HR0.out x7_2 p170 q170
                                            obtain rfl : ad164 = ad170 := (by injection e170)
                                            replace hx170_0 := (HB.out.cell (World.block_lt_of_cell? w _ hx170_0)).trans hx170_0
                                            replace p170 := eq_true p170
                                            replace q170 := eq_true q170
                                            have p171 : 0 ≤ ((ji28) : Int) := of_decide_eq_true (by first | (with_reducible assumption) | assumption)
                                            have q171 : (ji28) < (l1.length : Int) := of_decide_eq_true (by first | (with_reducible assumption) | assumption)
                                            obtain ⟨ad171, e171, hx171_0⟩ := Kd.at_int HR1.out (ji28) p171 q171
                                            obtain rfl : ad157 = ad171 := (by injection e171)
                                            replace hx171_0 := (HB.out.cell (World.block_lt_of_cell? w _ hx171_0)).trans hx171_0
                                            replace p171 := eq_true p171
                                            replace q171 := eq_true q171
                                            have A22' := A31.out
                                            obtain ⟨z, hz⟩ : ∃ z, (rd l1 ji28).tmod 4 = z := ⟨_, rfl⟩
                                            rw [hz] at A22'
                                            injection A22' with A22'
                                            subst A22'
                                            have hzr := rd_mod l1 HRG.out ji28
                                            rw [hz] at hzr
                                            have hz0 := hzr.1
                                            have hz4 := hzr.2
                                            have hcb := blk_cell HB2.out hz0 hz4
                                            go_wp2
                                            repeat (go_quiet (fail); try go_wp2)
                                            go_roundg k3
                                            case measure => have := HJ4.out; have := HK2.out; have := HK3.out; omega
                                            case rel => exact ⟨((x6_2 ++ (rdOf ByteArray.empty l0 x7_2)) ++ blk z), (ji28), (by first | rfl | (simp; done) | (simp [*]; done)), (by first | rfl | (simp; done) | (simp only [← hji28] <;> (first | rfl | simp)) | (simp [*]; done)), H', ⟨by have := HJ4.out; have := HK2.out; have := HK3.out; omega⟩, ⟨by repeat (first | (with_reducible first | exact HB.out | apply below_alloc | apply pw_below_drewN | apply below_drew1) | exact HB.out)⟩, ⟨by repeat (first | (with_reducible first | exact HB2.out | apply below_alloc | apply pw_below_drewN | apply below_drew1) | exact HB2.out)⟩⟩
                                          · rw [if_neg c32] at H
                                            exact absurd H (by simp)
                                        · rw [if_neg c30] at H
                                          exact absurd H (by simp)
                                      · rw [if_neg c29] at H
                                        exact absurd H (by simp)
                                    · rw [if_neg c27] at H
                                      exact absurd H (by simp)
                              · rw [if_neg c22] at H
                                exact absurd H (by simp)
                        · rw [if_neg c14] at H
                          exact absurd H (by simp)
                      · rw [if_neg c13] at H
                        exact absurd H (by simp)
                · rw [if_neg c12] at H
                  have c12b0 : decide (x7_2 < (l0.length : Int)) = false := decide_eq_false c12
                  clear c12
                  replace H := Option.bind_eq_some_iff.mp H
                  obtain ⟨⟨t159, t160⟩, A330, H⟩ := H
                  replace H : (if t160 = 0 then ((reveillehelp_Texts.f k2 t159 l0).bind fun t163 => (some t163)) else (some false)) = some r := H
                  have A33 := Aside0.mk A330
                  clear A330
                  by_cases c34 : t160 = 0
                  · rw [if_pos c34] at H
                    have c34b0 : (t160 == 0) = true := beq_iff_eq.mpr c34
                    have c34b1 : (t160 != 0) = false := bne_eq_false_iff_eq.mpr c34
                    clear c34
                    replace H := Option.bind_eq_some_iff.mp H
                    obtain ⟨t163, A350, H⟩ := H
                    replace H : (some t163) = some r := H
                    have A35 := Aside0.mk A350
                    clear A350
                    obtain rfl := Option.some.inj H
                    go_wp2_with (first | (go_at_call 13; (with_reducible refine (line_Split.calls k2 x6_2 t159 t160 _ A33.out (GW.below HG.out (by repeat (first | (with_reducible first | exact HB.out | apply below_alloc | apply pw_below_drewN | apply below_drew1) | exact HB.out)))).mono ?_); rintro e w36 ⟨v161, rfl, ho0, hb⟩; have n0_ := Aside0.mk (Kd.R_lower ho0 (below_size (by repeat (first | (with_reducible first | exact HB.out | apply below_alloc | apply pw_below_drewN | apply below_drew1) | exact HB.out)))); have n1_ := Aside0.mk (below_step (by repeat (first | (with_reducible first | exact HB.out | apply below_alloc | apply pw_below_drewN | apply below_drew1) | exact HB.out)) hb); clear HB; have HO162 := n0_; have HB := n1_; clear n0_ n1_; (try clear hb); (try clear hb2); (try clear hk); (try clear hi); (try clear ho0); obtain ⟨Ao37, co37, eo37⟩ := Kd.R_slice HO162.out; subst eo37) | (go_at_call 14; (with_reducible refine (reveillehelp_Texts.calls k2 _ _ t159 _ _ l0 t163 _ ?side1 ?side2 ?side3 ?side4 A35.out).mono ?_); (case side1 => repeat (first | exact (Kd.R_reads' HO162.out).2.2 | (with_reducible refine Kd.C_alloc ?_ _) | (with_reducible refine Kd.C_drewN ?_ _) | (with_reducible refine Kd.C_drew ?_))); (case side2 => exact (Kd.R_reads' HO162.out).2.1); (case side3 => repeat (first | exact (Kd.C_below HR0.out HB.out) | (with_reducible refine Kd.C_alloc ?_ _) | (with_reducible refine Kd.C_drewN ?_ _) | (with_reducible refine Kd.C_drew ?_))); (case side4 => exact HC0.out); rintro e w' ⟨rfl, ⟨nd, rfl⟩⟩; (try first | exact ⟨rfl, _, World.drewN_drewN _ _ _⟩ | exact ⟨rfl, _, Eq.trans (World.drewN_drewN _ _ _) (congrArg (World.drewN _) (Nat.add_assoc _ _ _))⟩)))
                    repeat (go_quiet (first | (go_at_call 13; (with_reducible refine (line_Split.calls k2 x6_2 t159 t160 _ A33.out (GW.below HG.out (by repeat (first | (with_reducible first | exact HB.out | apply below_alloc | apply pw_below_drewN | apply below_drew1) | exact HB.out)))).mono ?_); rintro e w36 ⟨v161, rfl, ho0, hb⟩; have n0_ := Aside0.mk (Kd.R_lower ho0 (below_size (by repeat (first | (with_reducible first | exact HB.out | apply below_alloc | apply pw_below_drewN | apply below_drew1) | exact HB.out)))); have n1_ := Aside0.mk (below_step (by repeat (first | (with_reducible first | exact HB.out | apply below_alloc | apply pw_below_drewN | apply below_drew1) | exact HB.out)) hb); clear HB; have HO162 := n0_; have HB := n1_; clear n0_ n1_; (try clear hb); (try clear hb2); (try clear hk); (try clear hi); (try clear ho0); obtain ⟨Ao37, co37, eo37⟩ := Kd.R_slice HO162.out; subst eo37) | (go_at_call 14; (with_reducible refine (reveillehelp_Texts.calls k2 _ _ t159 _ _ l0 t163 _ ?side1 ?side2 ?side3 ?side4 A35.out).mono ?_); (case side1 => repeat (first | exact (Kd.R_reads' HO162.out).2.2 | (with_reducible refine Kd.C_alloc ?_ _) | (with_reducible refine Kd.C_drewN ?_ _) | (with_reducible refine Kd.C_drew ?_))); (case side2 => exact (Kd.R_reads' HO162.out).2.1); (case side3 => repeat (first | exact (Kd.C_below HR0.out HB.out) | (with_reducible refine Kd.C_alloc ?_ _) | (with_reducible refine Kd.C_drewN ?_ _) | (with_reducible refine Kd.C_drew ?_))); (case side4 => exact HC0.out); rintro e w' ⟨rfl, ⟨nd, rfl⟩⟩; (try first | exact ⟨rfl, _, World.drewN_drewN _ _ _⟩ | exact ⟨rfl, _, Eq.trans (World.drewN_drewN _ _ _) (congrArg (World.drewN _) (Nat.add_assoc _ _ _))⟩))); try go_wp2_with (first | (go_at_call 13; (with_reducible refine (line_Split.calls k2 x6_2 t159 t160 _ A33.out (GW.below HG.out (by repeat (first | (with_reducible first | exact HB.out | apply below_alloc | apply pw_below_drewN | apply below_drew1) | exact HB.out)))).mono ?_); rintro e w36 ⟨v161, rfl, ho0, hb⟩; have n0_ := Aside0.mk (Kd.R_lower ho0 (below_size (by repeat (first | (with_reducible first | exact HB.out | apply below_alloc | apply pw_below_drewN | apply below_drew1) | exact HB.out)))); have n1_ := Aside0.mk (below_step (by repeat (first | (with_reducible first | exact HB.out | apply below_alloc | apply pw_below_drewN | apply below_drew1) | exact HB.out)) hb); clear HB; have HO162 := n0_; have HB := n1_; clear n0_ n1_; (try clear hb); (try clear hb2); (try clear hk); (try clear hi); (try clear ho0); obtain ⟨Ao37, co37, eo37⟩ := Kd.R_slice HO162.out; subst eo37) | (go_at_call 14; (with_reducible refine (reveillehelp_Texts.calls k2 _ _ t159 _ _ l0 t163 _ ?side1 ?side2 ?side3 ?side4 A35.out).mono ?_); (case side1 => repeat (first | exact (Kd.R_reads' HO162.out).2.2 | (with_reducible refine Kd.C_alloc ?_ _) | (with_reducible refine Kd.C_drewN ?_ _) | (with_reducible refine Kd.C_drew ?_))); (case side2 => exact (Kd.R_reads' HO162.out).2.1); (case side3 => repeat (first | exact (Kd.C_below HR0.out HB.out) | (with_reducible refine Kd.C_alloc ?_ _) | (with_reducible refine Kd.C_drewN ?_ _) | (with_reducible refine Kd.C_drew ?_))); (case side4 => exact HC0.out); rintro e w' ⟨rfl, ⟨nd, rfl⟩⟩; (try first | exact ⟨rfl, _, World.drewN_drewN _ _ _⟩ | exact ⟨rfl, _, Eq.trans (World.drewN_drewN _ _ _) (congrArg (World.drewN _) (Nat.add_assoc _ _ _))⟩))))
                    go_ret
                    exact ⟨by first | rfl | (simp [errW_none, errW_some] <;> rfl) | (simp [*, errW_none, errW_some] <;> rfl), by repeat (first | (with_reducible first | exact HB.out | apply below_alloc | apply pw_below_drewN | apply below_drew1) | exact HB.out)⟩
                  · rw [if_neg c34] at H
                    have c34b0 : (t160 == 0) = false := beq_eq_false_iff_ne.mpr c34
                    have c34b1 : (t160 != 0) = true := bne_iff_ne.mpr c34
                    obtain rfl := Option.some.inj H
                    go_wp2_with (first | (go_at_call 13; (with_reducible refine (line_Split.calls k2 x6_2 t159 t160 _ A33.out (GW.below HG.out (by repeat (first | (with_reducible first | exact HB.out | apply below_alloc | apply pw_below_drewN | apply below_drew1) | exact HB.out)))).mono ?_); rintro e w38 ⟨v161, rfl, ho0, hb⟩; have n0_ := Aside0.mk (Kd.R_lower ho0 (below_size (by repeat (first | (with_reducible first | exact HB.out | apply below_alloc | apply pw_below_drewN | apply below_drew1) | exact HB.out)))); have n1_ := Aside0.mk (below_step (by repeat (first | (with_reducible first | exact HB.out | apply below_alloc | apply pw_below_drewN | apply below_drew1) | exact HB.out)) hb); clear HB; have HO162 := n0_; have HB := n1_; clear n0_ n1_; (try clear hb); (try clear hb2); (try clear hk); (try clear hi); (try clear ho0)))
                    repeat (go_quiet (first | (go_at_call 13; (with_reducible refine (line_Split.calls k2 x6_2 t159 t160 _ A33.out (GW.below HG.out (by repeat (first | (with_reducible first | exact HB.out | apply below_alloc | apply pw_below_drewN | apply below_drew1) | exact HB.out)))).mono ?_); rintro e w38 ⟨v161, rfl, ho0, hb⟩; have n0_ := Aside0.mk (Kd.R_lower ho0 (below_size (by repeat (first | (with_reducible first | exact HB.out | apply below_alloc | apply pw_below_drewN | apply below_drew1) | exact HB.out)))); have n1_ := Aside0.mk (below_step (by repeat (first | (with_reducible first | exact HB.out | apply below_alloc | apply pw_below_drewN | apply below_drew1) | exact HB.out)) hb); clear HB; have HO162 := n0_; have HB := n1_; clear n0_ n1_; (try clear hb); (try clear hb2); (try clear hk); (try clear hi); (try clear ho0))); try go_wp2_with (first | (go_at_call 13; (with_reducible refine (line_Split.calls k2 x6_2 t159 t160 _ A33.out (GW.below HG.out (by repeat (first | (with_reducible first | exact HB.out | apply below_alloc | apply pw_below_drewN | apply below_drew1) | exact HB.out)))).mono ?_); rintro e w38 ⟨v161, rfl, ho0, hb⟩; have n0_ := Aside0.mk (Kd.R_lower ho0 (below_size (by repeat (first | (with_reducible first | exact HB.out | apply below_alloc | apply pw_below_drewN | apply below_drew1) | exact HB.out)))); have n1_ := Aside0.mk (below_step (by repeat (first | (with_reducible first | exact HB.out | apply below_alloc | apply pw_below_drewN | apply below_drew1) | exact HB.out)) hb); clear HB; have HO162 := n0_; have HB := n1_; clear n0_ n1_; (try clear hb); (try clear hb2); (try clear hk); (try clear hi); (try clear ho0))))
                    go_ret
                    exact ⟨by first | rfl | (simp [errW_none, errW_some] <;> rfl) | (simp [*, errW_none, errW_some] <;> rfl), by repeat (first | (with_reducible first | exact HB.out | apply below_alloc | apply pw_below_drewN | apply below_drew1) | exact HB.out)⟩
          · rw [if_neg c10] at H
            exact absurd H (by simp)
  · replace c4 := Bool.eq_false_iff.mpr c4
    subst c4
    have H1 : (some false) = some r := by rw [if_neg (show ¬ (false = true) by decide)] at H; exact H
    clear H
    have H := H1
    clear H1
    obtain rfl := Option.some.inj H
    go_enter Tryd.func5, Tryd.ntmps5
    go_wp2_with (first | (go_at_call 9; (with_reducible refine (reveillelaw5_known.calls  false _ A3.out (GW.below HG.out (by repeat (first | (with_reducible first | exact HB.out | apply below_alloc | apply pw_below_drewN | apply below_drew1) | exact HB.out)))).mono ?_); rintro e w39 ⟨rfl, hb⟩; have n0_ := Aside0.mk (below_step (by repeat (first | (with_reducible first | exact HB.out | apply below_alloc | apply pw_below_drewN | apply below_drew1) | exact HB.out)) hb); clear HB; have HB := n0_; clear n0_; (try clear hb); (try clear hb2); (try clear hk); (try clear hi)))
    repeat (go_quiet (first | (go_at_call 9; (with_reducible refine (reveillelaw5_known.calls  false _ A3.out (GW.below HG.out (by repeat (first | (with_reducible first | exact HB.out | apply below_alloc | apply pw_below_drewN | apply below_drew1) | exact HB.out)))).mono ?_); rintro e w39 ⟨rfl, hb⟩; have n0_ := Aside0.mk (below_step (by repeat (first | (with_reducible first | exact HB.out | apply below_alloc | apply pw_below_drewN | apply below_drew1) | exact HB.out)) hb); clear HB; have HB := n0_; clear n0_; (try clear hb); (try clear hb2); (try clear hk); (try clear hi))); try go_wp2_with (first | (go_at_call 9; (with_reducible refine (reveillelaw5_known.calls  false _ A3.out (GW.below HG.out (by repeat (first | (with_reducible first | exact HB.out | apply below_alloc | apply pw_below_drewN | apply below_drew1) | exact HB.out)))).mono ?_); rintro e w39 ⟨rfl, hb⟩; have n0_ := Aside0.mk (below_step (by repeat (first | (with_reducible first | exact HB.out | apply below_alloc | apply pw_below_drewN | apply below_drew1) | exact HB.out)) hb); clear HB; have HB := n0_; clear n0_; (try clear hb); (try clear hb2); (try clear hk); (try clear hi))))
    go_ret
    exact ⟨by first | rfl | (simp [errW_none, errW_some] <;> rfl) | (simp [*, errW_none, errW_some] <;> rfl), by repeat (first | (with_reducible first | exact HB.out | apply below_alloc | apply pw_below_drewN | apply below_drew1) | exact HB.out)⟩


end Go.Proofs.YtaihipdebmcmhaaDoor.Splits
