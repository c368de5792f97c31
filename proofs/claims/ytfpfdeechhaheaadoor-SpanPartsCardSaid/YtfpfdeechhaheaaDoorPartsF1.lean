/- Out of the program's functions that the law reaches, part 3: what each computes, and that the machine computes it. -/
import Derived.Test.YtfpfdeechhaheaaDoorPartsF0
namespace Go.Proofs.YtfpfdeechhaheaaDoor.Reads
open Go.RowKit Go.Proofs.YtfpfdeechhaheaaDoorW.PrintWords Go.Proofs.YtfpfdeechhaheaaDoorW.PrintLast
set_option linter.unusedVariables false
set_option linter.unusedSimpArgs false
def bkA (z : Int) : ByteArray := if z = 0 then ⟨#[]⟩ else if z = 1 then ⟨#[32]⟩ else ⟨#[32, 32, 32]⟩
def nmA (z : Int) : ByteArray := if z = 0 then ⟨#[115]⟩ else if z = 1 then ⟨#[115, 101, 99]⟩ else if z = 2 then ⟨#[109]⟩ else if z = 3 then ⟨#[109, 105, 110]⟩ else if z = 4 then ⟨#[104]⟩ else if z = 5 then ⟨#[104, 114]⟩ else if z = 6 then ⟨#[100]⟩ else ⟨#[119]⟩
def scA (z : Int) : Int := if z = 0 then 1 else if z = 1 then 1 else if z = 2 then 60 else if z = 3 then 60 else if z = 4 then 3600 else if z = 5 then 3600 else if z = 6 then 86400 else 604800
def nO : Obj := .cells #[.string ⟨#[115]⟩, .string ⟨#[115, 101, 99]⟩, .string ⟨#[109]⟩, .string ⟨#[109, 105, 110]⟩, .string ⟨#[104]⟩, .string ⟨#[104, 114]⟩, .string ⟨#[100]⟩, .string ⟨#[119]⟩] 34
def sO : Obj := .cells #[.int .i64 1, .int .i64 1, .int .i64 60, .int .i64 60, .int .i64 3600, .int .i64 3600, .int .i64 86400, .int .i64 604800] 35
def bO : Obj := .cells #[.string ⟨#[]⟩, .string ⟨#[32]⟩, .string ⟨#[32, 32, 32]⟩] 36
def W3 (w : World) : World := ((w.alloc nO).alloc sO).alloc bO
theorem W3_size (w : World) : (W3 w).heap.size = w.heap.size + 3 := by
  show (((w.heap.push nO).push sO).push bO).size = _
  simp
theorem W3_at (w : World) : (W3 w).heap[w.heap.size]? = some nO ∧ (W3 w).heap[w.heap.size + 1]? = some sO ∧ (W3 w).heap[w.heap.size + 2]? = some bO := by
  refine ⟨?_, ?_, ?_⟩
  · show (((w.heap.push nO).push sO).push bO)[_]? = _
    rw [Array.getElem?_push, if_neg (by simp; omega), Array.getElem?_push, if_neg (by simp), Array.getElem?_push, if_pos rfl]
  · show (((w.heap.push nO).push sO).push bO)[_]? = _
    rw [Array.getElem?_push, if_neg (by simp), Array.getElem?_push, if_pos (by simp)]
  · show (((w.heap.push nO).push sO).push bO)[_]? = _
    rw [Array.getElem?_push, if_pos (by simp)]
theorem nm_cell {wc w : World} (h : Below (W3 wc).heap.size (W3 wc) w) {z : Int} (h0 : 0 ≤ z) (h8 : z < 8) : w.cell? ⟨wc.heap.size, z.toNat, none⟩ = some (.string (nmA z)) := by
  rw [h.cell (p := ⟨wc.heap.size, z.toNat, none⟩) (by rw [W3_size]; show wc.heap.size < _; omega)]
  unfold World.cell?
  rw [(W3_at wc).1]
  rcases (by omega : z = 0 ∨ z = 1 ∨ z = 2 ∨ z = 3 ∨ z = 4 ∨ z = 5 ∨ z = 6 ∨ z = 7) with rfl | rfl | rfl | rfl | rfl | rfl | rfl | rfl <;> rfl
theorem sc_cell {wc w : World} (h : Below (W3 wc).heap.size (W3 wc) w) {z : Int} (h0 : 0 ≤ z) (h8 : z < 8) : w.cell? ⟨wc.heap.size + 1, z.toNat, none⟩ = some (.int .i64 (scA z)) := by
  rw [h.cell (p := ⟨wc.heap.size + 1, z.toNat, none⟩) (by rw [W3_size]; show wc.heap.size + 1 < _; omega)]
  unfold World.cell?
  rw [(W3_at wc).2.1]
  rcases (by omega : z = 0 ∨ z = 1 ∨ z = 2 ∨ z = 3 ∨ z = 4 ∨ z = 5 ∨ z = 6 ∨ z = 7) with rfl | rfl | rfl | rfl | rfl | rfl | rfl | rfl <;> rfl
theorem bk_cell {wc w : World} (h : Below (W3 wc).heap.size (W3 wc) w) {z : Int} (h0 : 0 ≤ z) (h3 : z < 3) : w.cell? ⟨wc.heap.size + 2, z.toNat, none⟩ = some (.string (bkA z)) := by
  rw [h.cell (p := ⟨wc.heap.size + 2, z.toNat, none⟩) (by rw [W3_size]; show wc.heap.size + 2 < _; omega)]
  unfold World.cell?
  rw [(W3_at wc).2.2]
  rcases (by omega : z = 0 ∨ z = 1 ∨ z = 2) with rfl | rfl | rfl <;> rfl
mutual
def reveillelaw1_SpanParts.j0 : Nat → List Int → List Int → List Int → Bool → Option (Bool)
  | 0, _, _, _, _ => none
  | k + 1, x0, x1, x2, x40 => if x40 = true then (some true) else (reveillelaw1_SpanParts.l0 k x0 x1 x2 (⟨#[]⟩ : ByteArray) 0 0)
def reveillelaw1_SpanParts.l0 : Nat → List Int → List Int → List Int → ByteArray → Int → Int → Option (Bool)
  | 0, _, _, _, _, _, _ => none
  | k + 1, x0, x1, x2, x10, x11, x12 => if x12 < (x0.length : Int) then (if 0 ≤ x12 then (if x12 < (x1.length : Int) then (if x12 < (x2.length : Int) then (if 0 ≤ (Int.tmod (wrap64 (rd x2 x12)) 3) then (if (Int.tmod (wrap64 (rd x2 x12)) 3) < 3 then (if x10.size + (bkA ((Int.tmod (wrap64 (rd x2 x12)) 3))).size ≤ 9223372036854775807 then ((reveilleref1_Digits.f k (wrap64 (rd x0 x12))).bind fun t181 => (if (x10 ++ (bkA ((Int.tmod (wrap64 (rd x2 x12)) 3)))).size + t181.size ≤ 9223372036854775807 then (if 0 ≤ (Int.tmod (wrap64 (Int.tdiv (wrap64 (rd x2 x12)) 3)) 3) then (if (Int.tmod (wrap64 (Int.tdiv (wrap64 (rd x2 x12)) 3)) 3) < 3 then (if ((x10 ++ (bkA ((Int.tmod (wrap64 (rd x2 x12)) 3)))) ++ t181).size + (bkA ((Int.tmod (wrap64 (Int.tdiv (wrap64 (rd x2 x12)) 3)) 3))).size ≤ 9223372036854775807 then (if 0 ≤ (wrap64 (Int.tmod (rd x1 x12) 8)) then (if (wrap64 (Int.tmod (rd x1 x12) 8)) < 8 then (if (((x10 ++ (bkA ((Int.tmod (wrap64 (rd x2 x12)) 3)))) ++ t181) ++ (bkA ((Int.tmod (wrap64 (Int.tdiv (wrap64 (rd x2 x12)) 3)) 3)))).size + (nmA ((wrap64 (Int.tmod (rd x1 x12) 8)))).size ≤ 9223372036854775807 then (if 0 ≤ (Int.tmod (wrap64 (Int.tdiv (wrap64 (rd x2 x12)) 9)) 3) then (if (Int.tmod (wrap64 (Int.tdiv (wrap64 (rd x2 x12)) 9)) 3) < 3 then (if ((((x10 ++ (bkA ((Int.tmod (wrap64 (rd x2 x12)) 3)))) ++ t181) ++ (bkA ((Int.tmod (wrap64 (Int.tdiv (wrap64 (rd x2 x12)) 3)) 3)))) ++ (nmA ((wrap64 (Int.tmod (rd x1 x12) 8))))).size + (bkA ((Int.tmod (wrap64 (Int.tdiv (wrap64 (rd x2 x12)) 9)) 3))).size ≤ 9223372036854775807 then (reveillelaw1_SpanParts.l0 k x0 x1 x2 (((((x10 ++ (bkA ((Int.tmod (wrap64 (rd x2 x12)) 3)))) ++ t181) ++ (bkA ((Int.tmod (wrap64 (Int.tdiv (wrap64 (rd x2 x12)) 3)) 3)))) ++ (nmA ((wrap64 (Int.tmod (rd x1 x12) 8))))) ++ (bkA ((Int.tmod (wrap64 (Int.tdiv (wrap64 (rd x2 x12)) 9)) 3)))) (wrap64 (x11 + (wrap64 ((wrap64 (rd x0 x12)) * (scA (wrap64 (Int.tmod (rd x1 x12) 8))))))) (wrap64 (x12 + 1))) else (none)) else (none)) else (none)) else (none)) else (none)) else (none)) else (none)) else (none)) else (none)) else (none))) else (none)) else (none)) else (none)) else (none)) else (none)) else (none)) else ((span_Parse.f k x10).bind fun bt183 => (if bt183.2 = 0 then (some (bt183.1 == x11)) else (some false)))
end
def reveillelaw1_SpanParts.f (k : Nat) (l0 : List Int) (l1 : List Int) (l2 : List Int) : Option (Bool) := (reveillelaw1_known.f).bind fun t177 => (if t177 = true then (if (l0.length : Int) < 1 then (reveillelaw1_SpanParts.j0 k l0 l1 l2 true) else (if (l0.length : Int) > 12 then (reveillelaw1_SpanParts.j0 k l0 l1 l2 true) else (if (l1.length : Int) < (l0.length : Int) then (reveillelaw1_SpanParts.j0 k l0 l1 l2 true) else (reveillelaw1_SpanParts.j0 k l0 l1 l2 (decide ((l2.length : Int) < (l0.length : Int))))))) else (some false))
theorem reveillelaw1_SpanParts.mono_l : ∀ k, (∀ y0 y1 y2 y3, LeO (reveillelaw1_SpanParts.j0 k y0 y1 y2 y3) (reveillelaw1_SpanParts.j0 (k + 1) y0 y1 y2 y3)) ∧ (∀ y0 y1 y2 y3 y4 y5, LeO (reveillelaw1_SpanParts.l0 k y0 y1 y2 y3 y4 y5) (reveillelaw1_SpanParts.l0 (k + 1) y0 y1 y2 y3 y4 y5))
  | 0 => ⟨fun _ _ _ _ r h => by simp [reveillelaw1_SpanParts.j0] at h, fun _ _ _ _ _ _ r h => by simp [reveillelaw1_SpanParts.l0] at h⟩
  | k + 1 => by
    obtain ⟨ih0, ih1⟩ := reveillelaw1_SpanParts.mono_l k
    refine ⟨?_, ?_⟩
    · intro y0 y1 y2 y3
      unfold reveillelaw1_SpanParts.j0
      repeat' first
      | (with_reducible exact ih0 _ _ _ _)
      | (with_reducible exact ih1 _ _ _ _ _ _)
      | (with_reducible exact reveilleref1_Digits.mono _ _)
      | (with_reducible exact span_Parse.mono _ _)
      | (with_reducible exact LeO.refl _)
      | (with_reducible exact LeO.none _)
      | (with_reducible refine LeO.ite ?_ ?_)
      | (with_reducible refine LeO.bind ?_ (fun _ => ?_))
      | exact ih0 _ _ _ _
      | exact ih1 _ _ _ _ _ _
      | exact reveilleref1_Digits.mono _ _
      | exact span_Parse.mono _ _
      | exact LeO.none _
      | refine LeO.ite ?_ ?_
      | refine LeO.bind ?_ (fun _ => ?_)
    · intro y0 y1 y2 y3 y4 y5
      unfold reveillelaw1_SpanParts.l0
      repeat' first
      | (with_reducible exact ih0 _ _ _ _)
      | (with_reducible exact ih1 _ _ _ _ _ _)
      | (with_reducible exact reveilleref1_Digits.mono _ _)
      | (with_reducible exact span_Parse.mono _ _)
      | (with_reducible exact LeO.refl _)
      | (with_reducible exact LeO.none _)
      | (with_reducible refine LeO.ite ?_ ?_)
      | (with_reducible refine LeO.bind ?_ (fun _ => ?_))
      | exact ih0 _ _ _ _
      | exact ih1 _ _ _ _ _ _
      | exact reveilleref1_Digits.mono _ _
      | exact span_Parse.mono _ _
      | exact LeO.none _
      | refine LeO.ite ?_ ?_
      | refine LeO.bind ?_ (fun _ => ?_)
theorem reveillelaw1_SpanParts.mono : ∀ a0 a1 a2 k, LeO (reveillelaw1_SpanParts.f k a0 a1 a2) (reveillelaw1_SpanParts.f (k + 1) a0 a1 a2) := by
  intro a0 a1 a2 k
  obtain ⟨ih0, ih1⟩ := reveillelaw1_SpanParts.mono_l k
  unfold reveillelaw1_SpanParts.f
  repeat' first
      | (with_reducible exact ih0 _ _ _ _)
      | (with_reducible exact ih1 _ _ _ _ _ _)
      | (with_reducible exact reveilleref1_Digits.mono _ _)
      | (with_reducible exact span_Parse.mono _ _)
      | (with_reducible exact LeO.refl _)
      | (with_reducible exact LeO.none _)
      | (with_reducible refine LeO.ite ?_ ?_)
      | (with_reducible refine LeO.bind ?_ (fun _ => ?_))
      | exact ih0 _ _ _ _
      | exact ih1 _ _ _ _ _ _
      | exact reveilleref1_Digits.mono _ _
      | exact span_Parse.mono _ _
      | exact LeO.none _
      | refine LeO.ite ?_ ?_
      | refine LeO.bind ?_ (fun _ => ?_)
def reveillelaw1_SpanParts.T14 : Bool × List (List Nat × List Nat) := (true, [([], []), ([], []), ([1], [1]), ([2], [2]), ([3], [3]), ([0, 4], [0, 4]), ([], []), ([], []), ([6, 7], [6, 7]), ([8], [8]), ([9], [9]), ([10], [10]), ([5, 11], [5, 11]), ([], []), ([13], [13]), ([14], [14]), ([15], [15]), ([16], [16]), ([12, 17], [12, 17]), ([], []), ([19], [19]), ([20], [20]), ([18, 21], [18, 21]), ([], []), ([23], [23]), ([24], [24]), ([25], [25]), ([26], [26]), ([22, 27], [22, 27]), ([28, 11, 0, 1, 2, 3, 4, 5, 6, 7, 8, 9, 10, 11, 12, 13, 14, 15, 16, 17, 18, 19, 20, 21, 22, 23, 24, 25, 26, 27, 28], [0, 28])])
def reveillelaw1_SpanParts.B14 : List Nat := [0, 0, 2, 6, 14, 31, 0, 0, 192, 448, 960, 1984, 4095, 0, 8192, 24576, 57344, 122880, 262143, 0, 524288, 1572864, 4194303, 0, 8388608, 25165824, 58720256, 125829120, 268435455, 536870911]
theorem reveillelaw1_SpanParts.tab14 : rtab .any (opsOf Tryd.f5 14) = reveillelaw1_SpanParts.T14 := by kernel_rfl
theorem reveillelaw1_SpanParts.bits14 : waitsOk reveillelaw1_SpanParts.T14.2 reveillelaw1_SpanParts.B14 = true := by kernel_rfl
def reveillelaw1_SpanParts.T15 : Bool × List (List Nat × List Nat) := (true, [([], []), ([], []), ([], []), ([1, 2], [1, 2]), ([3], [3]), ([4], [4]), ([], []), ([6], [6]), ([7], [7]), ([5, 8], [5, 8]), ([0, 9], [0, 9]), ([10, 0, 1, 2, 3, 4, 5, 6, 7, 8, 9, 10], [0, 10])])
def reveillelaw1_SpanParts.B15 : List Nat := [0, 0, 0, 6, 14, 30, 0, 64, 192, 510, 1023, 2047]
theorem reveillelaw1_SpanParts.tab15 : rtab .any (opsOf Tryd.f5 15) = reveillelaw1_SpanParts.T15 := by kernel_rfl
theorem reveillelaw1_SpanParts.bits15 : waitsOk reveillelaw1_SpanParts.T15.2 reveillelaw1_SpanParts.B15 = true := by kernel_rfl
set_option maxHeartbeats 8000000 in
set_option maxRecDepth 100000 in
theorem reveillelaw1_SpanParts.calls (k : Nat) (A0 : Option Addr) (c0 : Nat) (l0 : List Int) (A1 : Option Addr) (c1 : Nat) (l1 : List Int) (A2 : Option Addr) (c2 : Nat) (l2 : List Int) (r : Bool) (w : World) (hr0 : Kd.C (Kd.int .u16) w A0 l0.length l0) (hc0 : l0.length ≤ c0) (hr1 : Kd.C (Kd.int .u8) w A1 l1.length l1) (hc1 : l1.length ≤ c1) (hr2 : Kd.C (Kd.int .u8) w A2 l2.length l2) (hc2 : l2.length ≤ c2) (h : reveillelaw1_SpanParts.f k l0 l1 l2 = some r) (hG : GW w) :
    Calls Tryd.prog 5 #[.slice A0 l0.length c0, .slice A1 l1.length c1, .slice A2 l2.length c2] w fun e w' => e = .returned (.bool r) ∧ Below w.heap.size w w' := by
  have HG := Aside0.mk hG
  clear hG
  have HR0 := Aside0.mk hr0
  have HC0 := Aside0.mk hc0
  clear hr0 hc0
  have HR1 := Aside0.mk hr1
  have HC1 := Aside0.mk hc1
  clear hr1 hc1
  have HR2 := Aside0.mk hr2
  have HC2 := Aside0.mk hc2
  clear hr2 hc2
  have HB := Aside0.mk (Below.refl w.heap.size w)
  have H : ((reveillelaw1_known.f).bind fun t177 => (if t177 = true then (if (l0.length : Int) < 1 then (reveillelaw1_SpanParts.j0 k l0 l1 l2 true) else (if (l0.length : Int) > 12 then (reveillelaw1_SpanParts.j0 k l0 l1 l2 true) else (if (l1.length : Int) < (l0.length : Int) then (reveillelaw1_SpanParts.j0 k l0 l1 l2 true) else (reveillelaw1_SpanParts.j0 k l0 l1 l2 (decide ((l2.length : Int) < (l0.length : Int))))))) else (some false))) = some r := h
  clear h
  replace H := Option.bind_eq_some_iff.mp H
  obtain ⟨t177, A40, H⟩ := H
  replace H : (if t177 = true then (if (l0.length : Int) < 1 then (reveillelaw1_SpanParts.j0 k l0 l1 l2 true) else (if (l0.length : Int) > 12 then (reveillelaw1_SpanParts.j0 k l0 l1 l2 true) else (if (l1.length : Int) < (l0.length : Int) then (reveillelaw1_SpanParts.j0 k l0 l1 l2 true) else (reveillelaw1_SpanParts.j0 k l0 l1 l2 (decide ((l2.length : Int) < (l0.length : Int))))))) else (some false)) = some r := H
  have A4 := Aside0.mk A40
  clear A40
  by_cases c5 : t177 = true
  · subst c5
    have H1 : (if (l0.length : Int) < 1 then (reveillelaw1_SpanParts.j0 k l0 l1 l2 true) else (if (l0.length : Int) > 12 then (reveillelaw1_SpanParts.j0 k l0 l1 l2 true) else (if (l1.length : Int) < (l0.length : Int) then (reveillelaw1_SpanParts.j0 k l0 l1 l2 true) else (reveillelaw1_SpanParts.j0 k l0 l1 l2 (decide ((l2.length : Int) < (l0.length : Int))))))) = some r := by rw [if_pos rfl] at H; exact H
    clear H
    have H := H1
    clear H1
    have HC6 := Aside0.mk H
    clear H
    go_enter Tryd.func5, Tryd.ntmps5
    go_upto_region 3 with (first | ((with_reducible refine gate_callee (f := 8) rfl ?_); refine goesL_ (some 17) rfl rfl Tryd.func8 (by kernel_rfl) rfl #[] rfl (by (try simp only [List.map_toArray, List.map_cons, List.map_nil]); first | done | rfl | (simp only [List.length_drop, List.length_take]; rfl)) ?_; (with_reducible refine (reveillelaw1_known.calls  true _ A4.out (GW.below HG.out (by repeat (first | (with_reducible first | exact HB.out | apply below_alloc | apply pw_below_drewN | apply below_drew1) | exact HB.out)))).mono ?_); rintro e w7 ⟨rfl, hb⟩; refine ⟨_, rfl, ?_⟩; have n0_ := Aside0.mk (below_step (by repeat (first | (with_reducible first | exact HB.out | apply below_alloc | apply pw_below_drewN | apply below_drew1) | exact HB.out)) hb); clear HB; have HB := n0_; clear n0_; (try clear hb); (try clear hb2); (try clear hk); (try clear hi)))
    (try simp only [Act.put, List.setIfInBounds_toArray, List.set_cons_zero, List.set_cons_succ])
    go_cut [40] (fun v40 wc => ∃ (kq : Nat) (x40_5 : Bool), v40 = .bool x40_5 ∧ Aside0 (reveillelaw1_SpanParts.j0 kq l0 l1 l2 x40_5 = some r) ∧ Aside0 (kq ≤ k) ∧ Aside0 (Below w.heap.size w wc))
    case first =>
      have H := HC6.out
      clear HC6
      by_cases c8 : (l0.length : Int) < 1
      · rw [if_pos c8] at H
        have c8b0 : decide ((l0.length : Int) < 1) = true := decide_eq_true c8
        have c8b1 : decide (l0.length < 1) = true := decide_eq_true (by omega)
        clear c8
        (first | rw [c8b0] | (simp only [i64_w, i32_w]; rw [c8b0]) | skip)
        have H' := Aside0.mk H
        clear H
        go_wp2
        go_meet
        case rel => exact ⟨_, (true), (by first | rfl | (simp; done) | (simp [*]; done)), H', ⟨by first | omega | exact Nat.le_refl _⟩, ⟨by repeat (first | (with_reducible first | exact HB.out | apply below_alloc | apply pw_below_drewN | apply below_drew1) | exact HB.out)⟩⟩
      · rw [if_neg c8] at H
        have c8b0 : decide ((l0.length : Int) < 1) = false := decide_eq_false c8
        have c8b1 : decide (l0.length < 1) = false := decide_eq_false (by omega)
        clear c8
        (first | rw [c8b0] | (simp only [i64_w, i32_w]; rw [c8b0]) | skip)
        by_cases c9 : (l0.length : Int) > 12
        · rw [if_pos c9] at H
          have c9b0 : decide (12 < (l0.length : Int)) = true := decide_eq_true c9
          have c9b1 : decide (12 < l0.length) = true := decide_eq_true (by omega)
          clear c9
          have H' := Aside0.mk H
          clear H
          go_wp2
          go_meet
          case rel => exact ⟨_, (true), (by first | rfl | (simp; done) | (simp [*]; done)), H', ⟨by first | omega | exact Nat.le_refl _⟩, ⟨by repeat (first | (with_reducible first | exact HB.out | apply below_alloc | apply pw_below_drewN | apply below_drew1) | exact HB.out)⟩⟩
        · rw [if_neg c9] at H
          have c9b0 : decide (12 < (l0.length : Int)) = false := decide_eq_false c9
          have c9b1 : decide (12 < l0.length) = false := decide_eq_false (by omega)
          clear c9
          by_cases c10 : (l1.length : Int) < (l0.length : Int)
          · rw [if_pos c10] at H
            have c10b0 : decide ((l1.length : Int) < (l0.length : Int)) = true := decide_eq_true c10
            have c10b1 : decide (l1.length < l0.length) = true := decide_eq_true (Int.ofNat_lt.mp c10)
            clear c10
            have H' := Aside0.mk H
            clear H
            go_wp2
            go_meet
            case rel => exact ⟨_, (true), (by first | rfl | (simp; done) | (simp [*]; done)), H', ⟨by first | omega | exact Nat.le_refl _⟩, ⟨by repeat (first | (with_reducible first | exact HB.out | apply below_alloc | apply pw_below_drewN | apply below_drew1) | exact HB.out)⟩⟩
          · rw [if_neg c10] at H
            have c10b0 : decide ((l1.length : Int) < (l0.length : Int)) = false := decide_eq_false c10
            have c10b1 : decide (l1.length < l0.length) = false := decide_eq_false (fun h => c10 (Int.ofNat_lt.mpr h))
            clear c10
            have H' := Aside0.mk H
            clear H
            go_wp2
            go_meet
            case rel => exact ⟨_, (decide ((l2.length : Int) < (l0.length : Int))), (by first | rfl | (simp; done) | (simp [*]; done)), H', ⟨by first | omega | exact Nat.le_refl _⟩, ⟨by repeat (first | (with_reducible first | exact HB.out | apply below_alloc | apply pw_below_drewN | apply below_drew1) | exact HB.out)⟩⟩
    case rest =>
      clear HC6
      try clear c1
      try clear c2
      try clear p2
      try clear c5
      try clear c8
      try clear c8b0
      try clear c8b1
      try clear c9
      try clear c9b0
      try clear c9b1
      try clear c10
      try clear c10b0
      try clear c10b1
      obtain ⟨kq, x40_5, rfl, HA, HJ5, HB⟩ := hcut
      cases kq with
      | zero => exact absurd HA.out (by simp [reveillelaw1_SpanParts.j0])
      | succ kj5 =>
        have H := HA.out
        clear HA
        simp only [reveillelaw1_SpanParts.j0] at H
        by_cases c11 : x40_5 = true
        · subst c11
          have H1 : (some true) = some r := by rw [if_pos rfl] at H; exact H
          clear H
          have H := H1
          clear H1
          obtain rfl := Option.some.inj H
          go_wp2
          go_ret
          exact ⟨by first | rfl | (simp [errW_none, errW_some] <;> rfl) | (simp [*, errW_none, errW_some] <;> rfl), by repeat (first | (with_reducible first | exact HB.out | apply below_alloc | apply pw_below_drewN | apply below_drew1) | exact HB.out)⟩
        · replace c11 := Bool.eq_false_iff.mpr c11
          subst c11
          have H1 : (reveillelaw1_SpanParts.l0 kj5 l0 l1 l2 (⟨#[]⟩ : ByteArray) 0 0) = some r := by rw [if_neg (show ¬ (false = true) by decide)] at H; exact H
          clear H
          have H := H1
          clear H1
          have H' := Aside0.mk H
          clear H
          go_wp2
          go_loopg [10, 11, 12] kj5 (fun kq v10 v11 v12 w' => ∃ (x10_2 : ByteArray) (x11_2 : Int) (x12_2 : Int), v10 = .string x10_2 ∧ v11 = .int .i64 x11_2 ∧ v12 = .int .i64 x12_2 ∧ Aside0 (reveillelaw1_SpanParts.l0 kq l0 l1 l2 x10_2 x11_2 x12_2 = some r) ∧ Aside0 (kq ≤ kj5) ∧ Aside0 (Below w.heap.size w w') ∧ Aside0 (Below (W3 wc).heap.size (W3 wc) w'))
          case atStart => exact ⟨((⟨#[]⟩ : ByteArray)), (0), (0), (by first | rfl | (simp; done) | (simp [*]; done)), (by first | rfl | (simp; done) | (simp [*]; done)), (by first | rfl | (simp; done) | (simp [*]; done)), H', ⟨Nat.le_refl _⟩, ⟨by repeat (first | (with_reducible first | exact HB.out | apply below_alloc | apply pw_below_drewN | apply below_drew1) | exact HB.out)⟩, ⟨Below.refl _ _⟩⟩
          case round =>
            clear H'
            try clear c1
            try clear c2
            try clear p2
            try clear c5
            try clear c8
            try clear c8b0
            try clear c8b1
            try clear c9
            try clear c9b0
            try clear c9b1
            try clear c10
            try clear c10b0
            try clear c10b1
            try clear c11
            try clear p2
            obtain ⟨x10_2, x11_2, x12_2, rfl, rfl, rfl, HA, HK2, HB, HB2⟩ := hrel
            cases gk with
            | zero => exact absurd HA.out (by simp [reveillelaw1_SpanParts.l0])
            | succ k2 =>
              have H := HA.out
              clear HA
              simp only [reveillelaw1_SpanParts.l0] at H
              by_cases c12 : x12_2 < (l0.length : Int)
              · rw [if_pos c12] at H
                have c12b0 : decide (x12_2 < (l0.length : Int)) = true := decide_eq_true c12
                clear c12
                by_cases c13 : 0 ≤ x12_2
                · rw [if_pos c13] at H
                  have c13b0 : decide (0 ≤ x12_2) = true := decide_eq_true c13
                  clear c13
                  by_cases c14 : x12_2 < (l1.length : Int)
                  · rw [if_pos c14] at H
                    have c14b0 : decide (x12_2 < (l1.length : Int)) = true := decide_eq_true c14
                    clear c14
                    by_cases c15 : x12_2 < (l2.length : Int)
                    · rw [if_pos c15] at H
                      have c15b0 : decide (x12_2 < (l2.length : Int)) = true := decide_eq_true c15
                      clear c15
                      obtain ⟨ji16, hji16⟩ : ∃ j_ : Int, (Int.tmod (wrap64 (rd l2 x12_2)) 3) = j_ := ⟨_, rfl⟩
                      replace H : (if 0 ≤ (ji16) then (if (ji16) < 3 then (if x10_2.size + (bkA ((ji16))).size ≤ 9223372036854775807 then ((reveilleref1_Digits.f k2 (wrap64 (rd l0 x12_2))).bind fun t181 => (if (x10_2 ++ (bkA ((ji16)))).size + t181.size ≤ 9223372036854775807 then (if 0 ≤ (Int.tmod (wrap64 (Int.tdiv (wrap64 (rd l2 x12_2)) 3)) 3) then (if (Int.tmod (wrap64 (Int.tdiv (wrap64 (rd l2 x12_2)) 3)) 3) < 3 then (if ((x10_2 ++ (bkA ((ji16)))) ++ t181).size + (bkA ((Int.tmod (wrap64 (Int.tdiv (wrap64 (rd l2 x12_2)) 3)) 3))).size ≤ 9223372036854775807 then (if 0 ≤ (wrap64 (Int.tmod (rd l1 x12_2) 8)) then (if (wrap64 (Int.tmod (rd l1 x12_2) 8)) < 8 then (if (((x10_2 ++ (bkA ((ji16)))) ++ t181) ++ (bkA ((Int.tmod (wrap64 (Int.tdiv (wrap64 (rd l2 x12_2)) 3)) 3)))).size + (nmA ((wrap64 (Int.tmod (rd l1 x12_2) 8)))).size ≤ 9223372036854775807 then (if 0 ≤ (Int.tmod (wrap64 (Int.tdiv (wrap64 (rd l2 x12_2)) 9)) 3) then (if (Int.tmod (wrap64 (Int.tdiv (wrap64 (rd l2 x12_2)) 9)) 3) < 3 then (if ((((x10_2 ++ (bkA ((ji16)))) ++ t181) ++ (bkA ((Int.tmod (wrap64 (Int.tdiv (wrap64 (rd l2 x12_2)) 3)) 3)))) ++ (nmA ((wrap64 (Int.tmod (rd l1 x12_2) 8))))).size + (bkA ((Int.tmod (wrap64 (Int.tdiv (wrap64 (rd l2 x12_2)) 9)) 3))).size ≤ 9223372036854775807 then (reveillelaw1_SpanParts.l0 k2 l0 l1 l2 (((((x10_2 ++ (bkA ((ji16)))) ++ t181) ++ (bkA ((Int.tmod (wrap64 (Int.tdiv (wrap64 (rd l2 x12_2)) 3)) 3)))) ++ (nmA ((wrap64 (Int.tmod (rd l1 x12_2) 8))))) ++ (bkA ((Int.tmod (wrap64 (Int.tdiv (wrap64 (rd l2 x12_2)) 9)) 3)))) (wrap64 (x11_2 + (wrap64 ((wrap64 (rd l0 x12_2)) * (scA (wrap64 (Int.tmod (rd l1 x12_2) 8))))))) (wrap64 (x12_2 + 1))) else (none)) else (none)) else (none)) else (none)) else (none)) else (none)) else (none)) else (none)) else (none)) else (none))) else (none)) else (none)) else (none)) = some r := by first | (rw [hji16] at H; exact H) | (simp only [hji16] at H ⊢; exact H)
                      by_cases c17 : 0 ≤ (ji16)
                      · rw [if_pos c17] at H
                        have c17b0 := eq_true c17
                        have c17b1 : decide (0 ≤ (ji16)) = true := decide_eq_true c17
                        clear c17
                        by_cases c18 : (ji16) < 3
                        · rw [if_pos c18] at H
                          have c18b0 := eq_true c18
                          have c18b1 : decide ((ji16) < 3) = true := decide_eq_true c18
                          clear c18
                          by_cases c19 : x10_2.size + (bkA ((ji16))).size ≤ 9223372036854775807
                          · rw [if_pos c19] at H
                            have c19b0 := eq_true c19
                            have c19b1 : decide (x10_2.size + (bkA ((ji16))).size ≤ 9223372036854775807) = true := decide_eq_true c19
                            try have c19b2 : (9223372036854775807 < x10_2.size + (bkA ((ji16))).size) = False := eq_false (Nat.not_lt.2 c19)
                            replace H := Option.bind_eq_some_iff.mp H
                            obtain ⟨t181, A200, H⟩ := H
                            replace H : (if (x10_2 ++ (bkA ((ji16)))).size + t181.size ≤ 9223372036854775807 then (if 0 ≤ (Int.tmod (wrap64 (Int.tdiv (wrap64 (rd l2 x12_2)) 3)) 3) then (if (Int.tmod (wrap64 (Int.tdiv (wrap64 (rd l2 x12_2)) 3)) 3) < 3 then (if ((x10_2 ++ (bkA ((ji16)))) ++ t181).size + (bkA ((Int.tmod (wrap64 (Int.tdiv (wrap64 (rd l2 x12_2)) 3)) 3))).size ≤ 9223372036854775807 then (if 0 ≤ (wrap64 (Int.tmod (rd l1 x12_2) 8)) then (if (wrap64 (Int.tmod (rd l1 x12_2) 8)) < 8 then (if (((x10_2 ++ (bkA ((ji16)))) ++ t181) ++ (bkA ((Int.tmod (wrap64 (Int.tdiv (wrap64 (rd l2 x12_2)) 3)) 3)))).size + (nmA ((wrap64 (Int.tmod (rd l1 x12_2) 8)))).size ≤ 9223372036854775807 then (if 0 ≤ (Int.tmod (wrap64 (Int.tdiv (wrap64 (rd l2 x12_2)) 9)) 3) then (if (Int.tmod (wrap64 (Int.tdiv (wrap64 (rd l2 x12_2)) 9)) 3) < 3 then (if ((((x10_2 ++ (bkA ((ji16)))) ++ t181) ++ (bkA ((Int.tmod (wrap64 (Int.tdiv (wrap64 (rd l2 x12_2)) 3)) 3)))) ++ (nmA ((wrap64 (Int.tmod (rd l1 x12_2) 8))))).size + (bkA ((Int.tmod (wrap64 (Int.tdiv (wrap64 (rd l2 x12_2)) 9)) 3))).size ≤ 9223372036854775807 then (reveillelaw1_SpanParts.l0 k2 l0 l1 l2 (((((x10_2 ++ (bkA ((ji16)))) ++ t181) ++ (bkA ((Int.tmod (wrap64 (Int.tdiv (wrap64 (rd l2 x12_2)) 3)) 3)))) ++ (nmA ((wrap64 (Int.tmod (rd l1 x12_2) 8))))) ++ (bkA ((Int.tmod (wrap64 (Int.tdiv (wrap64 (rd l2 x12_2)) 9)) 3)))) (wrap64 (x11_2 + (wrap64 ((wrap64 (rd l0 x12_2)) * (scA (wrap64 (Int.tmod (rd l1 x12_2) 8))))))) (wrap64 (x12_2 + 1))) else (none)) else (none)) else (none)) else (none)) else (none)) else (none)) else (none)) else (none)) else (none)) else (none)) = some r := H
                            have A20 := Aside0.mk A200
                            clear A200
                            by_cases c21 : (x10_2 ++ (bkA ((ji16)))).size + t181.size ≤ 9223372036854775807
                            · rw [if_pos c21] at H
                              have c21b0 := eq_true c21
                              have c21b1 : decide ((x10_2 ++ (bkA ((ji16)))).size + t181.size ≤ 9223372036854775807) = true := decide_eq_true c21
                              try have c21b2 : (9223372036854775807 < (x10_2 ++ (bkA ((ji16)))).size + t181.size) = False := eq_false (Nat.not_lt.2 c21)
                              obtain ⟨ji22, hji22⟩ : ∃ j_ : Int, (Int.tmod (wrap64 (Int.tdiv (wrap64 (rd l2 x12_2)) 3)) 3) = j_ := ⟨_, rfl⟩
                              replace H : (if 0 ≤ (ji22) then (if (ji22) < 3 then (if ((x10_2 ++ (bkA ((ji16)))) ++ t181).size + (bkA ((ji22))).size ≤ 9223372036854775807 then (if 0 ≤ (wrap64 (Int.tmod (rd l1 x12_2) 8)) then (if (wrap64 (Int.tmod (rd l1 x12_2) 8)) < 8 then (if (((x10_2 ++ (bkA ((ji16)))) ++ t181) ++ (bkA ((ji22)))).size + (nmA ((wrap64 (Int.tmod (rd l1 x12_2) 8)))).size ≤ 9223372036854775807 then (if 0 ≤ (Int.tmod (wrap64 (Int.tdiv (wrap64 (rd l2 x12_2)) 9)) 3) then (if (Int.tmod (wrap64 (Int.tdiv (wrap64 (rd l2 x12_2)) 9)) 3) < 3 then (if ((((x10_2 ++ (bkA ((ji16)))) ++ t181) ++ (bkA ((ji22)))) ++ (nmA ((wrap64 (Int.tmod (rd l1 x12_2) 8))))).size + (bkA ((Int.tmod (wrap64 (Int.tdiv (wrap64 (rd l2 x12_2)) 9)) 3))).size ≤ 9223372036854775807 then (reveillelaw1_SpanParts.l0 k2 l0 l1 l2 (((((x10_2 ++ (bkA ((ji16)))) ++ t181) ++ (bkA ((ji22)))) ++ (nmA ((wrap64 (Int.tmod (rd l1 x12_2) 8))))) ++ (bkA ((Int.tmod (wrap64 (Int.tdiv (wrap64 (rd l2 x12_2)) 9)) 3)))) (wrap64 (x11_2 + (wrap64 ((wrap64 (rd l0 x12_2)) * (scA (wrap64 (Int.tmod (rd l1 x12_2) 8))))))) (wrap64 (x12_2 + 1))) else (none)) else (none)) else (none)) else (none)) else (none)) else (none)) else (none)) else (none)) else (none)) = some r := by first | (rw [hji22] at H; exact H) | (simp only [hji22] at H ⊢; exact H)
                              (try rw [hji22] at A20)
                              by_cases c23 : 0 ≤ (ji22)
                              · rw [if_pos c23] at H
                                have c23b0 := eq_true c23
                                have c23b1 : decide (0 ≤ (ji22)) = true := decide_eq_true c23
                                clear c23
                                by_cases c24 : (ji22) < 3
                                · rw [if_pos c24] at H
                                  have c24b0 := eq_true c24
                                  have c24b1 : decide ((ji22) < 3) = true := decide_eq_true c24
                                  clear c24
                                  by_cases c25 : ((x10_2 ++ (bkA ((ji16)))) ++ t181).size + (bkA ((ji22))).size ≤ 9223372036854775807
                                  · rw [if_pos c25] at H
                                    have c25b0 := eq_true c25
                                    have c25b1 : decide (((x10_2 ++ (bkA ((ji16)))) ++ t181).size + (bkA ((ji22))).size ≤ 9223372036854775807) = true := decide_eq_true c25
                                    try have c25b2 : (9223372036854775807 < ((x10_2 ++ (bkA ((ji16)))) ++ t181).size + (bkA ((ji22))).size) = False := eq_false (Nat.not_lt.2 c25)
                                    obtain ⟨ji26, hji26⟩ : ∃ j_ : Int, (wrap64 (Int.tmod (rd l1 x12_2) 8)) = j_ := ⟨_, rfl⟩
                                    replace H : (if 0 ≤ (ji26) then (if (ji26) < 8 then (if (((x10_2 ++ (bkA ((ji16)))) ++ t181) ++ (bkA ((ji22)))).size + (nmA ((ji26))).size ≤ 9223372036854775807 then (if 0 ≤ (Int.tmod (wrap64 (Int.tdiv (wrap64 (rd l2 x12_2)) 9)) 3) then (if (Int.tmod (wrap64 (Int.tdiv (wrap64 (rd l2 x12_2)) 9)) 3) < 3 then (if ((((x10_2 ++ (bkA ((ji16)))) ++ t181) ++ (bkA ((ji22)))) ++ (nmA ((ji26)))).size + (bkA ((Int.tmod (wrap64 (Int.tdiv (wrap64 (rd l2 x12_2)) 9)) 3))).size ≤ 9223372036854775807 then (reveillelaw1_SpanParts.l0 k2 l0 l1 l2 (((((x10_2 ++ (bkA ((ji16)))) ++ t181) ++ (bkA ((ji22)))) ++ (nmA ((ji26)))) ++ (bkA ((Int.tmod (wrap64 (Int.tdiv (wrap64 (rd l2 x12_2)) 9)) 3)))) (wrap64 (x11_2 + (wrap64 ((wrap64 (rd l0 x12_2)) * (scA (ji26)))))) (wrap64 (x12_2 + 1))) else (none)) else (none)) else (none)) else (none)) else (none)) else (none)) = some r := by first | (rw [hji26] at H; exact H) | (simp only [hji26] at H ⊢; exact H)
                                    (try rw [hji26] at A20)
                                    have hji26w : (IntKind.i64.wrap (Int.tmod (rd l1 x12_2) 8)) = ji26 := (i64_w _).trans hji26
                                    by_cases c27 : 0 ≤ (ji26)
                                    · rw [if_pos c27] at H
                                      have c27b0 := eq_true c27
                                      have c27b1 : decide (0 ≤ (ji26)) = true := decide_eq_true c27
                                      clear c27
                                      by_cases c28 : (ji26) < 8
                                      · rw [if_pos c28] at H
                                        have c28b0 := eq_true c28
                                        have c28b1 : decide ((ji26) < 8) = true := decide_eq_true c28
                                        clear c28
                                        by_cases c29 : (((x10_2 ++ (bkA ((ji16)))) ++ t181) ++ (bkA ((ji22)))).size + (nmA ((ji26))).size ≤ 9223372036854775807
                                        · rw [if_pos c29] at H
                                          have c29b0 := eq_true c29
                                          have c29b1 : decide ((((x10_2 ++ (bkA ((ji16)))) ++ t181) ++ (bkA ((ji22)))).size + (nmA ((ji26))).size ≤ 9223372036854775807) = true := decide_eq_true c29
                                          try have c29b2 : (9223372036854775807 < (((x10_2 ++ (bkA ((ji16)))) ++ t181) ++ (bkA ((ji22)))).size + (nmA ((ji26))).size) = False := eq_false (Nat.not_lt.2 c29)
                                          obtain ⟨ji30, hji30⟩ : ∃ j_ : Int, (Int.tmod (wrap64 (Int.tdiv (wrap64 (rd l2 x12_2)) 9)) 3) = j_ := ⟨_, rfl⟩
                                          replace H : (if 0 ≤ (ji30) then (if (ji30) < 3 then (if ((((x10_2 ++ (bkA ((ji16)))) ++ t181) ++ (bkA ((ji22)))) ++ (nmA ((ji26)))).size + (bkA ((ji30))).size ≤ 9223372036854775807 then (reveillelaw1_SpanParts.l0 k2 l0 l1 l2 (((((x10_2 ++ (bkA ((ji16)))) ++ t181) ++ (bkA ((ji22)))) ++ (nmA ((ji26)))) ++ (bkA ((ji30)))) (wrap64 (x11_2 + (wrap64 ((wrap64 (rd l0 x12_2)) * (scA (ji26)))))) (wrap64 (x12_2 + 1))) else (none)) else (none)) else (none)) = some r := by first | (rw [hji30] at H; exact H) | (simp only [hji30] at H ⊢; exact H)
                                          (try rw [hji30] at A20)
                                          by_cases c31 : 0 ≤ (ji30)
                                          · rw [if_pos c31] at H
                                            have c31b0 := eq_true c31
                                            have c31b1 : decide (0 ≤ (ji30)) = true := decide_eq_true c31
                                            clear c31
                                            by_cases c32 : (ji30) < 3
                                            · rw [if_pos c32] at H
                                              have c32b0 := eq_true c32
                                              have c32b1 : decide ((ji30) < 3) = true := decide_eq_true c32
                                              clear c32
                                              by_cases c33 : ((((x10_2 ++ (bkA ((ji16)))) ++ t181) ++ (bkA ((ji22)))) ++ (nmA ((ji26)))).size + (bkA ((ji30))).size ≤ 9223372036854775807
                                              · rw [if_pos c33] at H
                                                have c33b0 := eq_true c33
                                                have c33b1 : decide (((((x10_2 ++ (bkA ((ji16)))) ++ t181) ++ (bkA ((ji22)))) ++ (nmA ((ji26)))).size + (bkA ((ji30))).size ≤ 9223372036854775807) = true := decide_eq_true c33
                                                try have c33b2 : (9223372036854775807 < ((((x10_2 ++ (bkA ((ji16)))) ++ t181) ++ (bkA ((ji22)))) ++ (nmA ((ji26)))).size + (bkA ((ji30))).size) = False := eq_false (Nat.not_lt.2 c33)
                                                have H' := Aside0.mk H
                                                clear H
                                                have p178 : 0 ≤ (x12_2 : Int) := of_decide_eq_true (by first | (with_reducible assumption) | assumption)
                                                have q178 : x12_2 < (l1.length : Int) := of_decide_eq_true (by first | (with_reducible assumption) | assumption)
                                                obtain ⟨ad178, e178, hx178_0⟩ := Kd.at_int HR1.out x12_2 p178 q178
                                                cases e178
                                                replace hx178_0 := (HB.out.cell (World.block_lt_of_cell? w _ hx178_0)).trans hx178_0
                                                replace p178 := eq_true p178
                                                replace q178 := eq_true q178
                                                have p179 : 0 ≤ (x12_2 : Int) := of_decide_eq_true (by first | (with_reducible assumption) | assumption)
                                                have q179 : x12_2 < (l2.length : Int) := of_decide_eq_true (by first | (with_reducible assumption) | assumption)
                                                obtain ⟨ad179, e179, hx179_0⟩ := Kd.at_int HR2.out x12_2 p179 q179
                                                cases e179
                                                replace hx179_0 := (HB.out.cell (World.block_lt_of_cell? w _ hx179_0)).trans hx179_0
                                                replace p179 := eq_true p179
                                                replace q179 := eq_true q179
                                                try go_wp2
                                                have n2_ := Aside0.mk (below_drew1 HB2.out)
                                                clear HB2
                                                have HB2 := n2_
                                                clear n2_
                                                have n0_ := Aside0.mk (below_drew1 HB.out)
                                                clear HB
                                                have HB := n0_
                                                clear n0_
                                                have p180 : 0 ≤ (x12_2 : Int) := of_decide_eq_true (by first | (with_reducible assumption) | assumption)
                                                have q180 : x12_2 < (l0.length : Int) := of_decide_eq_true (by first | (with_reducible assumption) | assumption)
                                                obtain ⟨ad180, e180, hx180_0⟩ := Kd.at_int HR0.out x12_2 p180 q180
                                                have hw180_0 := hx180_0
                                                cases e180
                                                replace hx180_0 := (HB.out.cell (World.block_lt_of_cell? w _ hx180_0)).trans hx180_0
                                                replace p180 := eq_true p180
                                                replace q180 := eq_true q180
                                                have zc21 : (9223372036854775807 < x10_2.size + (bkA ji16).size + t181.size) = False := eq_false (by have hz := c21; simp only [ByteArray.size_append] at hz; omega)
                                                have zc25 : (9223372036854775807 < x10_2.size + (bkA ji16).size + t181.size + (bkA ji22).size) = False := eq_false (by have hz := c25; simp only [ByteArray.size_append] at hz; omega)
                                                have zc29 : (9223372036854775807 < x10_2.size + (bkA ji16).size + t181.size + (bkA ji22).size + (nmA ji26).size) = False := eq_false (by have hz := c29; simp only [ByteArray.size_append] at hz; omega)
                                                have zc33 : (9223372036854775807 < x10_2.size + (bkA ji16).size + t181.size + (bkA ji22).size + (nmA ji26).size + (bkA ji30).size) = False := eq_false (by have hz := c33; simp only [ByteArray.size_append] at hz; omega)
                                                have g160 : 0 ≤ ji16 := of_eq_true c17b0
                                                have g161 : ji16 < 3 := of_eq_true c18b0
                                                have g220 : 0 ≤ ji22 := of_eq_true c23b0
                                                have g221 : ji22 < 3 := of_eq_true c24b0
                                                have g260 : 0 ≤ ji26 := of_eq_true c27b0
                                                have g261 : ji26 < 8 := of_eq_true c28b0
                                                have g300 : 0 ≤ ji30 := of_eq_true c31b0
                                                have g301 : ji30 < 3 := of_eq_true c32b0
                                                refine start_ (n := 30) (S := fun w' => w'.cell? (ad180.add (x12_2).toNat) = some (.int .u16 (rd l0 x12_2)) ∧ w'.cell? ⟨wc.heap.size + 2, ji16.toNat, none⟩ = some (.string (bkA ji16)) ∧ w'.cell? ⟨wc.heap.size + 2, ji22.toNat, none⟩ = some (.string (bkA ji22)) ∧ w'.cell? ⟨wc.heap.size, ji26.toNat, none⟩ = some (.string (nmA ji26)) ∧ w'.cell? ⟨wc.heap.size + 2, ji30.toNat, none⟩ = some (.string (bkA ji30))) (ds := []) #[false, false, false, false, false, false, false, false, false, false, false, false, false, false, false, false, false, false, false, false, false, false, false, false, false, false, false, false, false, false] (by kernel_rfl) rfl rfl ⟨(HB.out.cell (World.block_lt_of_cell? w _ hw180_0)).trans hw180_0, bk_cell HB2.out g160 g161, bk_cell HB2.out g220 g221, nm_cell HB2.out g260 g261, bk_cell HB2.out g300 g301⟩ (fun hHeld => ?_); refine with_tabW reveillelaw1_SpanParts.tab14 reveillelaw1_SpanParts.bits14 (fun HT_ HW_ => ?_)
                                                generalize wr.drew = w34 at HB HB2 hx180_0 hHeld ⊢
                                                refine pure_ (i := 0) (N := some 61) (v := ?_) (a' := ?_) #[true, false, false, false, false, false, false, false, false, false, false, false, false, false, false, false, false, false, false, false, false, false, false, false, false, false, false, false, false, false] rfl rfl (any_of HT_.out (by kernel_rfl)) (fun _ _ _ h => h) (Or.inl ⟨by rfl, ?_⟩) ?_ ?_
                                                rotate_left
                                                · intro w'
                                                  go_simp
                                                  with_reducible rfl
                                                rotate_left
                                                · simp only [Act.put, List.setIfInBounds_toArray, List.set_cons_zero, List.set_cons_succ, i64_w, i32_w]
                                                  rfl
                                                refine pure_ (i := 1) (N := some 62) (v := ?_) (a' := ?_) #[true, true, false, false, false, false, false, false, false, false, false, false, false, false, false, false, false, false, false, false, false, false, false, false, false, false, false, false, false, false] rfl rfl (any_of HT_.out (by kernel_rfl)) (fun _ _ _ h => h) (Or.inl ⟨by rfl, ?_⟩) ?_ ?_
                                                rotate_left
                                                · intro w'
                                                  go_simp
                                                  with_reducible rfl
                                                rotate_left
                                                · simp only [Act.put, List.setIfInBounds_toArray, List.set_cons_zero, List.set_cons_succ, i64_w, i32_w]
                                                  rfl
                                                refine pure_ (i := 2) (N := some 63) (v := ?_) (a' := ?_) #[true, true, true, false, false, false, false, false, false, false, false, false, false, false, false, false, false, false, false, false, false, false, false, false, false, false, false, false, false, false] rfl rfl (any_of HT_.out (by kernel_rfl)) (fun _ _ _ h => h) (Or.inl ⟨by rfl, ?_⟩) ?_ ?_
                                                rotate_left
                                                · intro w'
                                                  go_simp
                                                  with_reducible rfl
                                                rotate_left
                                                · simp only [Act.put, List.setIfInBounds_toArray, List.set_cons_zero, List.set_cons_succ, i64_w, i32_w]
                                                  rfl
                                                refine pure_ (i := 3) (N := some 64) (v := ?_) (a' := ?_) #[true, true, true, true, false, false, false, false, false, false, false, false, false, false, false, false, false, false, false, false, false, false, false, false, false, false, false, false, false, false] rfl rfl (any_of HT_.out (by kernel_rfl)) (fun _ _ _ h => h) (Or.inl ⟨by rfl, ?_⟩) ?_ ?_
                                                rotate_left
                                                · intro w'
                                                  go_simp
                                                  with_reducible rfl
                                                rotate_left
                                                · simp only [Act.put, List.setIfInBounds_toArray, List.set_cons_zero, List.set_cons_succ, i64_w, i32_w]
                                                  rfl
                                                refine take_ (i := 4) (N := some 65) (v := ?_) (a' := ?_) #[true, true, true, true, true, false, false, false, false, false, false, false, false, false, false, false, false, false, false, false, false, false, false, false, false, false, false, false, false, false] rfl rfl (take_ofW HT_.out HW_.out (by kernel_rfl)) (fun _ _ _ h => h) (Or.inl ⟨by rfl, ?_⟩) hHeld ?_ ?_
                                                rotate_left
                                                · rintro w' ⟨s0, s1, s2, s3, s4⟩
                                                  go_simp
                                                  with_reducible rfl
                                                rotate_left
                                                · simp only [Act.put, List.setIfInBounds_toArray, List.set_cons_zero, List.set_cons_succ, i64_w, i32_w]
                                                  rfl
                                                refine pure_ (i := 5) (N := some 66) (v := ?_) (a' := ?_) #[true, true, true, true, true, true, false, false, false, false, false, false, false, false, false, false, false, false, false, false, false, false, false, false, false, false, false, false, false, false] rfl rfl (any_of HT_.out (by kernel_rfl)) (fun _ _ _ h => h) (Or.inl ⟨by rfl, ?_⟩) ?_ ?_
                                                rotate_left
                                                · intro w'
                                                  go_simp
                                                  with_reducible rfl
                                                rotate_left
                                                · simp only [Act.put, List.setIfInBounds_toArray, List.set_cons_zero, List.set_cons_succ, i64_w, i32_w]
                                                  rfl
                                                refine pure_ (i := 6) (N := some 67) (v := ?_) (a' := ?_) #[true, true, true, true, true, true, true, false, false, false, false, false, false, false, false, false, false, false, false, false, false, false, false, false, false, false, false, false, false, false] rfl rfl (any_of HT_.out (by kernel_rfl)) (fun _ _ _ h => h) (Or.inl ⟨by rfl, ?_⟩) ?_ ?_
                                                rotate_left
                                                · intro w'
                                                  go_simp
                                                  with_reducible rfl
                                                rotate_left
                                                · simp only [Act.put, List.setIfInBounds_toArray, List.set_cons_zero, List.set_cons_succ, i64_w, i32_w]
                                                  rfl
                                                refine pure_ (i := 7) (N := some 68) (v := ?_) (a' := ?_) #[true, true, true, true, true, true, true, true, false, false, false, false, false, false, false, false, false, false, false, false, false, false, false, false, false, false, false, false, false, false] rfl rfl (any_of HT_.out (by kernel_rfl)) (fun _ _ _ h => h) (Or.inl ⟨by rfl, ?_⟩) ?_ ?_
                                                rotate_left
                                                · intro w'
                                                  go_simp
                                                  with_reducible rfl
                                                rotate_left
                                                · simp only [Act.put, List.setIfInBounds_toArray, List.set_cons_zero, List.set_cons_succ, i64_w, i32_w]
                                                  rfl
                                                refine pure_ (i := 8) (N := some 69) (v := ?_) (a' := ?_) #[true, true, true, true, true, true, true, true, true, false, false, false, false, false, false, false, false, false, false, false, false, false, false, false, false, false, false, false, false, false] rfl rfl (any_of HT_.out (by kernel_rfl)) (fun _ _ _ h => h) (Or.inl ⟨by rfl, ?_⟩) ?_ ?_
                                                rotate_left
                                                · intro w'
                                                  go_simp
                                                  with_reducible rfl
                                                rotate_left
                                                · simp only [Act.put, List.setIfInBounds_toArray, List.set_cons_zero, List.set_cons_succ, i64_w, i32_w]
                                                  rfl
                                                refine pure_ (i := 13) (N := some 74) (v := ?_) (a' := ?_) #[true, true, true, true, true, true, true, true, true, false, false, false, false, true, false, false, false, false, false, false, false, false, false, false, false, false, false, false, false, false] rfl rfl (any_of HT_.out (by kernel_rfl)) (fun _ _ _ h => h) (Or.inl ⟨by rfl, ?_⟩) ?_ ?_
                                                rotate_left
                                                · intro w'
                                                  go_simp
                                                  with_reducible rfl
                                                rotate_left
                                                · simp only [Act.put, List.setIfInBounds_toArray, List.set_cons_zero, List.set_cons_succ, i64_w, i32_w]
                                                  rfl
                                                refine pure_ (i := 14) (N := some 75) (v := ?_) (a' := ?_) #[true, true, true, true, true, true, true, true, true, false, false, false, false, true, true, false, false, false, false, false, false, false, false, false, false, false, false, false, false, false] rfl rfl (any_of HT_.out (by kernel_rfl)) (fun _ _ _ h => h) (Or.inl ⟨by rfl, ?_⟩) ?_ ?_
                                                rotate_left
                                                · intro w'
                                                  go_simp
                                                  with_reducible rfl
                                                rotate_left
                                                · simp only [Act.put, List.setIfInBounds_toArray, List.set_cons_zero, List.set_cons_succ, i64_w, i32_w]
                                                  rfl
                                                refine pure_ (i := 15) (N := some 76) (v := ?_) (a' := ?_) #[true, true, true, true, true, true, true, true, true, false, false, false, false, true, true, true, false, false, false, false, false, false, false, false, false, false, false, false, false, false] rfl rfl (any_of HT_.out (by kernel_rfl)) (fun _ _ _ h => h) (Or.inl ⟨by rfl, ?_⟩) ?_ ?_
                                                rotate_left
                                                · intro w'
                                                  go_simp
                                                  with_reducible rfl
                                                rotate_left
                                                · simp only [Act.put, List.setIfInBounds_toArray, List.set_cons_zero, List.set_cons_succ, i64_w, i32_w]
                                                  rfl
                                                refine pure_ (i := 16) (N := some 77) (v := ?_) (a' := ?_) #[true, true, true, true, true, true, true, true, true, false, false, false, false, true, true, true, true, false, false, false, false, false, false, false, false, false, false, false, false, false] rfl rfl (any_of HT_.out (by kernel_rfl)) (fun _ _ _ h => h) (Or.inl ⟨by rfl, ?_⟩) ?_ ?_
                                                rotate_left
                                                · intro w'
                                                  go_simp
                                                  with_reducible rfl
                                                rotate_left
                                                · simp only [Act.put, List.setIfInBounds_toArray, List.set_cons_zero, List.set_cons_succ, i64_w, i32_w]
                                                  rfl
                                                refine take_ (i := 17) (N := some 78) (v := ?_) (a' := ?_) #[true, true, true, true, true, true, true, true, true, false, false, false, false, true, true, true, true, true, false, false, false, false, false, false, false, false, false, false, false, false] rfl rfl (take_ofW HT_.out HW_.out (by kernel_rfl)) (fun _ _ _ h => h) (Or.inl ⟨by rfl, ?_⟩) hHeld ?_ ?_
                                                rotate_left
                                                · rintro w' ⟨s0, s1, s2, s3, s4⟩
                                                  go_simp
                                                  with_reducible rfl
                                                rotate_left
                                                · simp only [Act.put, List.setIfInBounds_toArray, List.set_cons_zero, List.set_cons_succ, i64_w, i32_w]
                                                  rfl
                                                refine pure_ (i := 19) (N := some 80) (v := ?_) (a' := ?_) #[true, true, true, true, true, true, true, true, true, false, false, false, false, true, true, true, true, true, false, true, false, false, false, false, false, false, false, false, false, false] rfl rfl (any_of HT_.out (by kernel_rfl)) (fun _ _ _ h => h) (Or.inl ⟨by rfl, ?_⟩) ?_ ?_
                                                rotate_left
                                                · intro w'
                                                  go_simp
                                                  with_reducible rfl
                                                rotate_left
                                                · simp only [Act.put, List.setIfInBounds_toArray, List.set_cons_zero, List.set_cons_succ, i64_w, i32_w]
                                                  rfl
                                                refine pure_ (i := 20) (N := some 81) (v := ?_) (a' := ?_) #[true, true, true, true, true, true, true, true, true, false, false, false, false, true, true, true, true, true, false, true, true, false, false, false, false, false, false, false, false, false] rfl rfl (any_of HT_.out (by kernel_rfl)) (fun _ _ _ h => h) (Or.inl ⟨by rfl, ?_⟩) ?_ ?_
                                                rotate_left
                                                · intro w'
                                                  go_simp
                                                  with_reducible rfl
                                                rotate_left
                                                · simp only [Act.put, List.setIfInBounds_toArray, List.set_cons_zero, List.set_cons_succ, i64_w, i32_w]
                                                  rfl
                                                refine take_ (i := 21) (N := some 82) (v := ?_) (a' := ?_) #[true, true, true, true, true, true, true, true, true, false, false, false, false, true, true, true, true, true, false, true, true, true, false, false, false, false, false, false, false, false] rfl rfl (take_ofW HT_.out HW_.out (by kernel_rfl)) (fun _ _ _ h => h) (Or.inl ⟨by rfl, ?_⟩) hHeld ?_ ?_
                                                rotate_left
                                                · rintro w' ⟨s0, s1, s2, s3, s4⟩
                                                  go_simp
                                                  with_reducible rfl
                                                rotate_left
                                                · simp only [Act.put, List.setIfInBounds_toArray, List.set_cons_zero, List.set_cons_succ, i64_w, i32_w]
                                                  rfl
                                                refine pure_ (i := 23) (N := some 84) (v := ?_) (a' := ?_) #[true, true, true, true, true, true, true, true, true, false, false, false, false, true, true, true, true, true, false, true, true, true, false, true, false, false, false, false, false, false] rfl rfl (any_of HT_.out (by kernel_rfl)) (fun _ _ _ h => h) (Or.inl ⟨by rfl, ?_⟩) ?_ ?_
                                                rotate_left
                                                · intro w'
                                                  go_simp
                                                  with_reducible rfl
                                                rotate_left
                                                · simp only [Act.put, List.setIfInBounds_toArray, List.set_cons_zero, List.set_cons_succ, i64_w, i32_w]
                                                  rfl
                                                refine pure_ (i := 24) (N := some 85) (v := ?_) (a' := ?_) #[true, true, true, true, true, true, true, true, true, false, false, false, false, true, true, true, true, true, false, true, true, true, false, true, true, false, false, false, false, false] rfl rfl (any_of HT_.out (by kernel_rfl)) (fun _ _ _ h => h) (Or.inl ⟨by rfl, ?_⟩) ?_ ?_
                                                rotate_left
                                                · intro w'
                                                  go_simp
                                                  with_reducible rfl
                                                rotate_left
                                                · simp only [Act.put, List.setIfInBounds_toArray, List.set_cons_zero, List.set_cons_succ, i64_w, i32_w]
                                                  rfl
                                                refine pure_ (i := 25) (N := some 86) (v := ?_) (a' := ?_) #[true, true, true, true, true, true, true, true, true, false, false, false, false, true, true, true, true, true, false, true, true, true, false, true, true, true, false, false, false, false] rfl rfl (any_of HT_.out (by kernel_rfl)) (fun _ _ _ h => h) (Or.inl ⟨by rfl, ?_⟩) ?_ ?_
                                                rotate_left
                                                · intro w'
                                                  go_simp
                                                  with_reducible rfl
                                                rotate_left
                                                · simp only [Act.put, List.setIfInBounds_toArray, List.set_cons_zero, List.set_cons_succ, i64_w, i32_w]
                                                  rfl
                                                refine pure_ (i := 26) (N := some 87) (v := ?_) (a' := ?_) #[true, true, true, true, true, true, true, true, true, false, false, false, false, true, true, true, true, true, false, true, true, true, false, true, true, true, true, false, false, false] rfl rfl (any_of HT_.out (by kernel_rfl)) (fun _ _ _ h => h) (Or.inl ⟨by rfl, ?_⟩) ?_ ?_
                                                rotate_left
                                                · intro w'
                                                  go_simp
                                                  with_reducible rfl
                                                rotate_left
                                                · simp only [Act.put, List.setIfInBounds_toArray, List.set_cons_zero, List.set_cons_succ, i64_w, i32_w]
                                                  rfl
                                                refine take_ (i := 27) (N := some 88) (v := ?_) (a' := ?_) #[true, true, true, true, true, true, true, true, true, false, false, false, false, true, true, true, true, true, false, true, true, true, false, true, true, true, true, true, false, false] rfl rfl (take_ofW HT_.out HW_.out (by kernel_rfl)) (fun _ _ _ h => h) (Or.inl ⟨by rfl, ?_⟩) hHeld ?_ ?_
                                                rotate_left
                                                · rintro w' ⟨s0, s1, s2, s3, s4⟩
                                                  go_simp
                                                  with_reducible rfl
                                                rotate_left
                                                · simp only [Act.put, List.setIfInBounds_toArray, List.set_cons_zero, List.set_cons_succ, i64_w, i32_w]
                                                  rfl
                                                refine take_ (i := 9) (N := some 70) (v := ?_) (a' := ?_) #[true, true, true, true, true, true, true, true, true, true, false, false, false, true, true, true, true, true, false, true, true, true, false, true, true, true, true, true, false, false] rfl rfl (take_ofW HT_.out HW_.out (by kernel_rfl)) (fun _ _ _ h => h) (Or.inl ⟨by rfl, ?_⟩) hHeld ?_ ?_
                                                rotate_left
                                                · rintro w' ⟨s0, s1, s2, s3, s4⟩
                                                  go_simp
                                                  with_reducible rfl
                                                rotate_left
                                                · simp only [Act.put, List.setIfInBounds_toArray, List.set_cons_zero, List.set_cons_succ, i64_w, i32_w]
                                                  rfl
                                                refine pure_ (i := 10) (N := some 71) (v := ?_) (a' := ?_) #[true, true, true, true, true, true, true, true, true, true, true, false, false, true, true, true, true, true, false, true, true, true, false, true, true, true, true, true, false, false] rfl rfl (any_of HT_.out (by kernel_rfl)) (fun _ _ _ h => h) (Or.inl ⟨by rfl, ?_⟩) ?_ ?_
                                                rotate_left
                                                · intro w'
                                                  go_simp
                                                  with_reducible rfl
                                                rotate_left
                                                · simp only [Act.put, List.setIfInBounds_toArray, List.set_cons_zero, List.set_cons_succ, i64_w, i32_w]
                                                  rfl
                                                refine one_ (i := 11) (N := some 72) #[true, true, true, true, true, true, true, true, true, true, true, true, false, true, true, true, true, true, false, true, true, true, false, true, true, true, true, true, false, false] rfl rfl (one_of HT_.out (by kernel_rfl)) (by decide) (fun K hK => ?_)
                                                refine goes_ Tryd.func13 (by kernel_rfl) rfl #[.int .i64 (wrap64 (rd l0 x12_2))] (by rfl) rfl rfl (by (try simp only [List.map_toArray, List.map_cons, List.map_nil]); first | done | rfl | (simp only [List.length_drop, List.length_take]; rfl)) ?_
                                                with_reducible refine (reveilleref1_Digits.calls k2 (wrap64 (rd l0 x12_2)) t181 _ A20.out).mono ?_
                                                rintro e w35 ⟨rfl, hb⟩
                                                have n2_ := Aside0.mk (below_step HB2.out hb)
                                                clear HB2
                                                have HB2 := n2_
                                                clear n2_
                                                refine ⟨_, rfl, ?_⟩
                                                have n0_ := Aside0.mk (below_step (by repeat (first | (with_reducible first | exact HB.out | apply below_alloc | apply pw_below_drewN | apply below_drew1) | exact HB.out)) hb)
                                                clear HB
                                                have HB := n0_
                                                clear n0_
                                                (try clear hb)
                                                (try clear hb2)
                                                (try clear hk)
                                                (try clear hi)
                                                refine hK.out _ _ ⟨(HB.out.cell (World.block_lt_of_cell? w _ hw180_0)).trans hw180_0, bk_cell HB2.out g160 g161, bk_cell HB2.out g220 g221, nm_cell HB2.out g260 g261, bk_cell HB2.out g300 g301⟩ (fun hHeld => ?_)
                                                clear hK K
                                                refine norm_ (a' := ?_) ?_ ?_
                                                rotate_left
                                                · show Act.put _ (some 72) _ = _
                                                  simp only [Act.put, List.setIfInBounds_toArray, List.set_cons_zero, List.set_cons_succ, i64_w, i32_w]
                                                  rfl
                                                refine pure_ (i := 12) (N := some 73) (v := ?_) (a' := ?_) #[true, true, true, true, true, true, true, true, true, true, true, true, true, true, true, true, true, true, false, true, true, true, false, true, true, true, true, true, false, false] rfl rfl (any_of HT_.out (by kernel_rfl)) (fun _ _ _ h => h) (Or.inl ⟨by rfl, ?_⟩) ?_ ?_
                                                rotate_left
                                                · intro w'
                                                  go_simp
                                                  with_reducible rfl
                                                rotate_left
                                                · simp only [Act.put, List.setIfInBounds_toArray, List.set_cons_zero, List.set_cons_succ, i64_w, i32_w]
                                                  rfl
                                                refine pure_ (i := 18) (N := some 79) (v := ?_) (a' := ?_) #[true, true, true, true, true, true, true, true, true, true, true, true, true, true, true, true, true, true, true, true, true, true, false, true, true, true, true, true, false, false] rfl rfl (any_of HT_.out (by kernel_rfl)) (fun _ _ _ h => h) (Or.inl ⟨by rfl, ?_⟩) ?_ ?_
                                                rotate_left
                                                · intro w'
                                                  go_simp
                                                  with_reducible rfl
                                                rotate_left
                                                · simp only [Act.put, List.setIfInBounds_toArray, List.set_cons_zero, List.set_cons_succ, i64_w, i32_w]
                                                  rfl
                                                refine pure_ (i := 22) (N := some 83) (v := ?_) (a' := ?_) #[true, true, true, true, true, true, true, true, true, true, true, true, true, true, true, true, true, true, true, true, true, true, true, true, true, true, true, true, false, false] rfl rfl (any_of HT_.out (by kernel_rfl)) (fun _ _ _ h => h) (Or.inl ⟨by rfl, ?_⟩) ?_ ?_
                                                rotate_left
                                                · intro w'
                                                  go_simp
                                                  with_reducible rfl
                                                rotate_left
                                                · simp only [Act.put, List.setIfInBounds_toArray, List.set_cons_zero, List.set_cons_succ, i64_w, i32_w]
                                                  rfl
                                                refine pure_ (i := 28) (N := some 89) (v := ?_) (a' := ?_) #[true, true, true, true, true, true, true, true, true, true, true, true, true, true, true, true, true, true, true, true, true, true, true, true, true, true, true, true, true, false] rfl rfl (any_of HT_.out (by kernel_rfl)) (fun _ _ _ h => h) (Or.inl ⟨by rfl, ?_⟩) ?_ ?_
                                                rotate_left
                                                · intro w'
                                                  go_simp
                                                  with_reducible rfl
                                                rotate_left
                                                · simp only [Act.put, List.setIfInBounds_toArray, List.set_cons_zero, List.set_cons_succ, i64_w, i32_w]
                                                  rfl
                                                refine pure_ (i := 29) (N := some 10) (v := ?_) (a' := ?_) #[true, true, true, true, true, true, true, true, true, true, true, true, true, true, true, true, true, true, true, true, true, true, true, true, true, true, true, true, true, true] rfl rfl (any_of HT_.out (by kernel_rfl)) (fun _ _ _ h => h) (Or.inl ⟨by rfl, ?_⟩) ?_ ?_
                                                rotate_left
                                                · intro w'
                                                  go_simp
                                                  with_reducible rfl
                                                rotate_left
                                                · simp only [Act.put, List.setIfInBounds_toArray, List.set_cons_zero, List.set_cons_succ, i64_w, i32_w]
                                                  rfl
                                                refine done_ (done_of HT_.out (by kernel_rfl)) ?_
                                                try go_wp2
                                                have n2_ := Aside0.mk (below_drew1 HB2.out)
                                                clear HB2
                                                have HB2 := n2_
                                                clear n2_
                                                have n0_ := Aside0.mk (below_drew1 HB.out)
                                                clear HB
                                                have HB := n0_
                                                clear n0_
                                                have p182 : 0 ≤ (x12_2 : Int) := of_decide_eq_true (by first | (with_reducible assumption) | assumption)
                                                have q182 : x12_2 < (l0.length : Int) := of_decide_eq_true (by first | (with_reducible assumption) | assumption)
                                                obtain ⟨ad182, e182, hx182_0⟩ := Kd.at_int HR0.out x12_2 p182 q182
                                                have hw182_0 := hx182_0
                                                obtain rfl : ad180 = ad182 := (by injection e182)
                                                replace hx182_0 := (HB.out.cell (World.block_lt_of_cell? w _ hx182_0)).trans hx182_0
                                                replace p182 := eq_true p182
                                                replace q182 := eq_true q182
                                                refine start_ (n := 12) (S := fun w' => w'.cell? (ad180.add (x12_2).toNat) = some (.int .u16 (rd l0 x12_2)) ∧ w'.cell? ⟨wc.heap.size + 1, ji26.toNat, none⟩ = some (.int .i64 (scA ji26))) (ds := []) #[false, false, false, false, false, false, false, false, false, false, false, false] (by kernel_rfl) rfl rfl ⟨(HB.out.cell (World.block_lt_of_cell? w _ hw182_0)).trans hw182_0, sc_cell HB2.out g260 g261⟩ (fun hHeld => ?_); refine with_tabW reveillelaw1_SpanParts.tab15 reveillelaw1_SpanParts.bits15 (fun HT_ HW_ => ?_)
                                                generalize w35.drew = w36 at HB HB2 hx182_0 hHeld ⊢
                                                refine pure_ (i := 0) (N := some 90) (v := ?_) (a' := ?_) #[true, false, false, false, false, false, false, false, false, false, false, false] rfl rfl (any_of HT_.out (by kernel_rfl)) (fun _ _ _ h => h) (Or.inl ⟨by rfl, ?_⟩) ?_ ?_
                                                rotate_left
                                                · intro w'
                                                  go_simp
                                                  with_reducible rfl
                                                rotate_left
                                                · simp only [Act.put, List.setIfInBounds_toArray, List.set_cons_zero, List.set_cons_succ, i64_w, i32_w]
                                                  rfl
                                                refine pure_ (i := 1) (N := some 91) (v := ?_) (a' := ?_) #[true, true, false, false, false, false, false, false, false, false, false, false] rfl rfl (any_of HT_.out (by kernel_rfl)) (fun _ _ _ h => h) (Or.inl ⟨by rfl, ?_⟩) ?_ ?_
                                                rotate_left
                                                · intro w'
                                                  go_simp
                                                  with_reducible rfl
                                                rotate_left
                                                · simp only [Act.put, List.setIfInBounds_toArray, List.set_cons_zero, List.set_cons_succ, i64_w, i32_w]
                                                  rfl
                                                refine pure_ (i := 2) (N := some 92) (v := ?_) (a' := ?_) #[true, true, true, false, false, false, false, false, false, false, false, false] rfl rfl (any_of HT_.out (by kernel_rfl)) (fun _ _ _ h => h) (Or.inl ⟨by rfl, ?_⟩) ?_ ?_
                                                rotate_left
                                                · intro w'
                                                  go_simp
                                                  with_reducible rfl
                                                rotate_left
                                                · simp only [Act.put, List.setIfInBounds_toArray, List.set_cons_zero, List.set_cons_succ, i64_w, i32_w]
                                                  rfl
                                                refine pure_ (i := 3) (N := some 93) (v := ?_) (a' := ?_) #[true, true, true, true, false, false, false, false, false, false, false, false] rfl rfl (any_of HT_.out (by kernel_rfl)) (fun _ _ _ h => h) (Or.inl ⟨by rfl, ?_⟩) ?_ ?_
                                                rotate_left
                                                · intro w'
                                                  go_simp
                                                  with_reducible rfl
                                                rotate_left
                                                · simp only [Act.put, List.setIfInBounds_toArray, List.set_cons_zero, List.set_cons_succ, i64_w, i32_w]
                                                  rfl
                                                refine pure_ (i := 6) (N := some 96) (v := ?_) (a' := ?_) #[true, true, true, true, false, false, true, false, false, false, false, false] rfl rfl (any_of HT_.out (by kernel_rfl)) (fun _ _ _ h => h) (Or.inl ⟨by rfl, ?_⟩) ?_ ?_
                                                rotate_left
                                                · intro w'
                                                  go_simp
                                                  with_reducible rfl
                                                rotate_left
                                                · simp only [Act.put, List.setIfInBounds_toArray, List.set_cons_zero, List.set_cons_succ, i64_w, i32_w]
                                                  rfl
                                                refine pure_ (i := 7) (N := some 97) (v := ?_) (a' := ?_) #[true, true, true, true, false, false, true, true, false, false, false, false] rfl rfl (any_of HT_.out (by kernel_rfl)) (fun _ _ _ h => h) (Or.inl ⟨by rfl, ?_⟩) ?_ ?_
                                                rotate_left
                                                · intro w'
                                                  go_simp
                                                  with_reducible rfl
                                                rotate_left
                                                · simp only [Act.put, List.setIfInBounds_toArray, List.set_cons_zero, List.set_cons_succ, i64_w, i32_w]
                                                  rfl
                                                refine take_ (i := 8) (N := some 98) (v := ?_) (a' := ?_) #[true, true, true, true, false, false, true, true, true, false, false, false] rfl rfl (take_ofW HT_.out HW_.out (by kernel_rfl)) (fun _ _ _ h => h) (Or.inl ⟨by rfl, ?_⟩) hHeld ?_ ?_
                                                rotate_left
                                                · rintro w' ⟨s0, s1⟩
                                                  go_simp
                                                  with_reducible rfl
                                                rotate_left
                                                · simp only [Act.put, List.setIfInBounds_toArray, List.set_cons_zero, List.set_cons_succ, i64_w, i32_w]
                                                  rfl
                                                refine take_ (i := 4) (N := some 94) (v := ?_) (a' := ?_) #[true, true, true, true, true, false, true, true, true, false, false, false] rfl rfl (take_ofW HT_.out HW_.out (by kernel_rfl)) (fun _ _ _ h => h) (Or.inl ⟨by rfl, ?_⟩) hHeld ?_ ?_
                                                rotate_left
                                                · rintro w' ⟨s0, s1⟩
                                                  go_simp
                                                  with_reducible rfl
                                                rotate_left
                                                · simp only [Act.put, List.setIfInBounds_toArray, List.set_cons_zero, List.set_cons_succ, i64_w, i32_w]
                                                  rfl
                                                refine pure_ (i := 5) (N := some 95) (v := ?_) (a' := ?_) #[true, true, true, true, true, true, true, true, true, false, false, false] rfl rfl (any_of HT_.out (by kernel_rfl)) (fun _ _ _ h => h) (Or.inl ⟨by rfl, ?_⟩) ?_ ?_
                                                rotate_left
                                                · intro w'
                                                  go_simp
                                                  with_reducible rfl
                                                rotate_left
                                                · simp only [Act.put, List.setIfInBounds_toArray, List.set_cons_zero, List.set_cons_succ, i64_w, i32_w]
                                                  rfl
                                                refine pure_ (i := 9) (N := some 99) (v := ?_) (a' := ?_) #[true, true, true, true, true, true, true, true, true, true, false, false] rfl rfl (any_of HT_.out (by kernel_rfl)) (fun _ _ _ h => h) (Or.inl ⟨by rfl, ?_⟩) ?_ ?_
                                                rotate_left
                                                · intro w'
                                                  go_simp
                                                  with_reducible rfl
                                                rotate_left
                                                · simp only [Act.put, List.setIfInBounds_toArray, List.set_cons_zero, List.set_cons_succ, i64_w, i32_w]
                                                  rfl
                                                refine pure_ (i := 10) (N := some 100) (v := ?_) (a' := ?_) #[true, true, true, true, true, true, true, true, true, true, true, false] rfl rfl (any_of HT_.out (by kernel_rfl)) (fun _ _ _ h => h) (Or.inl ⟨by rfl, ?_⟩) ?_ ?_
                                                rotate_left
                                                · intro w'
                                                  go_simp
                                                  with_reducible rfl
                                                rotate_left
                                                · simp only [Act.put, List.setIfInBounds_toArray, List.set_cons_zero, List.set_cons_succ, i64_w, i32_w]
                                                  rfl
                                                refine pure_ (i := 11) (N := some 11) (v := ?_) (a' := ?_) #[true, true, true, true, true, true, true, true, true, true, true, true] rfl rfl (any_of HT_.out (by kernel_rfl)) (fun _ _ _ h => h) (Or.inl ⟨by rfl, ?_⟩) ?_ ?_
                                                rotate_left
                                                · intro w'
                                                  go_simp
                                                  with_reducible rfl
                                                rotate_left
                                                · simp only [Act.put, List.setIfInBounds_toArray, List.set_cons_zero, List.set_cons_succ, i64_w, i32_w]
                                                  rfl
                                                refine done_ (done_of HT_.out (by kernel_rfl)) ?_
                                                try go_wp2
                                                go_roundg k2
                                                case measure => have := HJ5.out; have := HK2.out; omega
                                                case rel => exact ⟨(((((x10_2 ++ (bkA ((ji16)))) ++ t181) ++ (bkA ((ji22)))) ++ (nmA ((ji26)))) ++ (bkA ((ji30)))), (wrap64 (x11_2 + (wrap64 ((wrap64 (rd l0 x12_2)) * (scA (ji26)))))), (wrap64 (x12_2 + 1)), (by first | rfl | (simp; done) | (simp only [← hji16, ← hji22, ← hji26, ← hji30] <;> (first | rfl | simp)) | (simp [*]; done)), (by first | rfl | (simp; done) | (simp only [← hji26] <;> (first | rfl | simp)) | (simp [*]; done)), (by first | rfl | (simp; done) | (simp [*]; done)), H', ⟨by have := HJ5.out; have := HK2.out; omega⟩, ⟨by repeat (first | (with_reducible first | exact HB.out | apply below_alloc | apply pw_below_drewN | apply below_drew1) | exact HB.out)⟩, HB2⟩
                                              · rw [if_neg c33] at H
                                                exact absurd H (by simp)
                                            · rw [if_neg c32] at H
                                              exact absurd H (by simp)
                                          · rw [if_neg c31] at H
                                            exact absurd H (by simp)
                                        · rw [if_neg c29] at H
                                          exact absurd H (by simp)
                                      · rw [if_neg c28] at H
                                        exact absurd H (by simp)
                                    · rw [if_neg c27] at H
                                      exact absurd H (by simp)
                                  · rw [if_neg c25] at H
                                    exact absurd H (by simp)
                                · rw [if_neg c24] at H
                                  exact absurd H (by simp)
                              · rw [if_neg c23] at H
                                exact absurd H (by simp)
                            · rw [if_neg c21] at H
                              exact absurd H (by simp)
                          · rw [if_neg c19] at H
                            exact absurd H (by simp)
                        · rw [if_neg c18] at H
                          exact absurd H (by simp)
                      · rw [if_neg c17] at H
                        exact absurd H (by simp)
                    · rw [if_neg c15] at H
                      exact absurd H (by simp)
                  · rw [if_neg c14] at H
                    exact absurd H (by simp)
                · rw [if_neg c13] at H
                  exact absurd H (by simp)
              · rw [if_neg c12] at H
                have c12b0 : decide (x12_2 < (l0.length : Int)) = false := decide_eq_false c12
                clear c12
                replace H := Option.bind_eq_some_iff.mp H
                obtain ⟨⟨t183, t184⟩, A370, H⟩ := H
                replace H : (if t184 = 0 then (some (t183 == x11_2)) else (some false)) = some r := H
                have A37 := Aside0.mk A370
                clear A370
                by_cases c38 : t184 = 0
                · rw [if_pos c38] at H
                  have c38b0 : (t184 == 0) = true := beq_iff_eq.mpr c38
                  have c38b1 : (t184 != 0) = false := bne_eq_false_iff_eq.mpr c38
                  clear c38
                  obtain rfl := Option.some.inj H
                  go_wp2_with (first | ((with_reducible refine gate_callee (f := 9) rfl ?_); refine goesL_ (some 103) rfl rfl Tryd.func9 (by kernel_rfl) rfl #[.string x10_2] rfl (by (try simp only [List.map_toArray, List.map_cons, List.map_nil]); first | done | rfl | (simp only [List.length_drop, List.length_take]; rfl)) ?_; (with_reducible refine (span_Parse.calls k2 x10_2 t183 t184 _ A37.out).mono ?_); rintro e w39 ⟨rfl, hb⟩; refine ⟨_, rfl, ?_⟩; have n0_ := Aside0.mk (below_step (by repeat (first | (with_reducible first | exact HB.out | apply below_alloc | apply pw_below_drewN | apply below_drew1) | exact HB.out)) hb); clear HB; have HB := n0_; clear n0_; (try clear hb); (try clear hb2); (try clear hk); (try clear hi)))
                  go_ret
                  exact ⟨by first | rfl | (simp [errW_none, errW_some] <;> rfl) | (simp [*, errW_none, errW_some] <;> rfl), by repeat (first | (with_reducible first | exact HB.out | apply below_alloc | apply pw_below_drewN | apply below_drew1) | exact HB.out)⟩
                · rw [if_neg c38] at H
                  have c38b0 : (t184 == 0) = false := beq_eq_false_iff_ne.mpr c38
                  have c38b1 : (t184 != 0) = true := bne_iff_ne.mpr c38
                  obtain rfl := Option.some.inj H
                  go_wp2_with (first | ((with_reducible refine gate_callee (f := 9) rfl ?_); refine goesL_ (some 103) rfl rfl Tryd.func9 (by kernel_rfl) rfl #[.string x10_2] rfl (by (try simp only [List.map_toArray, List.map_cons, List.map_nil]); first | done | rfl | (simp only [List.length_drop, List.length_take]; rfl)) ?_; (with_reducible refine (span_Parse.calls k2 x10_2 t183 t184 _ A37.out).mono ?_); rintro e w40 ⟨rfl, hb⟩; refine ⟨_, rfl, ?_⟩; have n0_ := Aside0.mk (below_step (by repeat (first | (with_reducible first | exact HB.out | apply below_alloc | apply pw_below_drewN | apply below_drew1) | exact HB.out)) hb); clear HB; have HB := n0_; clear n0_; (try clear hb); (try clear hb2); (try clear hk); (try clear hi)))
                  go_ret
                  exact ⟨by first | rfl | (simp [errW_none, errW_some] <;> rfl) | (simp [*, errW_none, errW_some] <;> rfl), by repeat (first | (with_reducible first | exact HB.out | apply below_alloc | apply pw_below_drewN | apply below_drew1) | exact HB.out)⟩
  · replace c5 := Bool.eq_false_iff.mpr c5
    subst c5
    have H1 : (some false) = some r := by rw [if_neg (show ¬ (false = true) by decide)] at H; exact H
    clear H
    have H := H1
    clear H1
    obtain rfl := Option.some.inj H
    go_enter Tryd.func5, Tryd.ntmps5
    go_wp2_with (first | ((with_reducible refine gate_callee (f := 8) rfl ?_); refine goesL_ (some 17) rfl rfl Tryd.func8 (by kernel_rfl) rfl #[] rfl (by (try simp only [List.map_toArray, List.map_cons, List.map_nil]); first | done | rfl | (simp only [List.length_drop, List.length_take]; rfl)) ?_; (with_reducible refine (reveillelaw1_known.calls  false _ A4.out (GW.below HG.out (by repeat (first | (with_reducible first | exact HB.out | apply below_alloc | apply pw_below_drewN | apply below_drew1) | exact HB.out)))).mono ?_); rintro e w41 ⟨rfl, hb⟩; refine ⟨_, rfl, ?_⟩; have n0_ := Aside0.mk (below_step (by repeat (first | (with_reducible first | exact HB.out | apply below_alloc | apply pw_below_drewN | apply below_drew1) | exact HB.out)) hb); clear HB; have HB := n0_; clear n0_; (try clear hb); (try clear hb2); (try clear hk); (try clear hi)))
    go_ret
    exact ⟨by first | rfl | (simp [errW_none, errW_some] <;> rfl) | (simp [*, errW_none, errW_some] <;> rfl), by repeat (first | (with_reducible first | exact HB.out | apply below_alloc | apply pw_below_drewN | apply below_drew1) | exact HB.out)⟩

/-- THE ONE PURE STATEMENT of reveillelaw1_SpanParts: yours. -/
def reveillelaw1_SpanParts.Pure : Prop := ∀ (l0 : List Int) (l1 : List Int) (l2 : List Int), l0.length ≤ maxLen → l0.length * 2 ≤ 140737488351232 → (∀ x ∈ l0, (Lit.int .u16 x).wf = true) → l1.length ≤ maxLen → l1.length * 1 ≤ 140737488351232 → (∀ x ∈ l1, (Lit.int .u8 x).wf = true) → l2.length ≤ maxLen → l2.length * 1 ≤ 140737488351232 → (∀ x ∈ l2, (Lit.int .u8 x).wf = true) → ∃ k, reveillelaw1_SpanParts.f k l0 l1 l2 = some true
theorem reveillelaw1_SpanParts.walk (P : reveillelaw1_SpanParts.Pure) (a0 : Option Addr) (len0 cap0 : Nat) (z0 : List Int) (a1 : Option Addr) (len1 cap1 : Nat) (z1 : List Int) (a2 : Option Addr) (len2 cap2 : Nat) (z2 : List Int) (w : World) (w0 : (a0 = none ∧ len0 = 0 ∧ cap0 = 0 ∧ z0 = []) ∨ ∃ x, a0 = some x ∧ len0 ≤ cap0 ∧ cap0 ≤ maxLen ∧ z0.length = cap0 ∧ (∀ i, i < z0.length → w.cell? (x.add i) = some (.int .u16 (z0.getD i 0))) ∧ ∀ n ∈ z0, (Lit.int .u16 n).wf = true) (y0 : len0 * 2 ≤ 140737488351232) (w1 : (a1 = none ∧ len1 = 0 ∧ cap1 = 0 ∧ z1 = []) ∨ ∃ x, a1 = some x ∧ len1 ≤ cap1 ∧ cap1 ≤ maxLen ∧ z1.length = cap1 ∧ (∀ i, i < z1.length → w.cell? (x.add i) = some (.int .u8 (z1.getD i 0))) ∧ ∀ n ∈ z1, (Lit.int .u8 n).wf = true) (y1 : len1 * 1 ≤ 140737488351232) (w2 : (a2 = none ∧ len2 = 0 ∧ cap2 = 0 ∧ z2 = []) ∨ ∃ x, a2 = some x ∧ len2 ≤ cap2 ∧ cap2 ≤ maxLen ∧ z2.length = cap2 ∧ (∀ i, i < z2.length → w.cell? (x.add i) = some (.int .u8 (z2.getD i 0))) ∧ ∀ n ∈ z2, (Lit.int .u8 n).wf = true) (y2 : len2 * 1 ≤ 140737488351232) (hG : GW w) :
    Calls Tryd.prog 5 #[.slice a0 len0 cap0, .slice a1 len1 cap1, .slice a2 len2 cap2] w fun e w' => e = .returned (.bool true) ∧ Below w.heap.size w w' := by
  obtain ⟨l0, rfl, hr0, hm0, hw0, hc0⟩ := ReadsInt.ofRowC w0
  obtain ⟨l1, rfl, hr1, hm1, hw1, hc1⟩ := ReadsInt.ofRowC w1
  obtain ⟨l2, rfl, hr2, hm2, hw2, hc2⟩ := ReadsInt.ofRowC w2
  obtain ⟨k, h⟩ := P l0 l1 l2 hm0 y0 hw0 hm1 y1 hw1 hm2 y2 hw2
  refine (reveillelaw1_SpanParts.calls k _ _ l0 _ _ l1 _ _ l2 true w (Kd.C_of_reads (d := (0 : Int)) (h1 := fun _ => rfl) hr0) hc0 (Kd.C_of_reads (d := (0 : Int)) (h1 := fun _ => rfl) hr1) hc1 (Kd.C_of_reads (d := (0 : Int)) (h1 := fun _ => rfl) hr2) hc2 h hG).mono ?_
  rintro e w' ⟨rfl, hd⟩
  exact ⟨rfl, hd⟩


end Go.Proofs.YtfpfdeechhaheaaDoor.Reads
