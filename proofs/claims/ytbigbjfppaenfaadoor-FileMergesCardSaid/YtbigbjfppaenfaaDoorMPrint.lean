/- Turned from print.py's contract of Print. -/
import Derived.Test.YtbigbjfppaenfaaDoorMSect
namespace Go.Proofs.YtbigbjfppaenfaaDoor.Lines
open Go.RowKit Go.Proofs.YtbigbjfppaenfaaDoorW.PrintWords Go.Proofs.YtbigbjfppaenfaaDoorW.PrintLast
attribute [local go_sem high] eqA37
set_option linter.unusedVariables false
set_option linter.unusedSimpArgs false

/-! ### reveilleref6_Print: function 19 -/
mutual
def reveilleref6_Print.l0 : Nat → ByteArray → List ByteArray → Int → List (S37) → Option (ByteArray)
  | 0, _, _, _, _ => none
  | k + 1, x3, x4, x5, x109000 => if x5 < (x4.length : Int) then (if x3.size + 1 ≤ 9223372036854775807 then (if 0 ≤ x5 then (if (x3 ++ (⟨#[91]⟩ : ByteArray)).size + (rdOf ByteArray.empty x4 x5).size ≤ 9223372036854775807 then (if ((x3 ++ (⟨#[91]⟩ : ByteArray)) ++ (rdOf ByteArray.empty x4 x5)).size + 2 ≤ 9223372036854775807 then (reveilleref6_Print.l1 k (((x3 ++ (⟨#[91]⟩ : ByteArray)) ++ (rdOf ByteArray.empty x4 x5)) ++ (⟨#[93, 10]⟩ : ByteArray)) x4 x5 0 x109000) else (none)) else (none)) else (none)) else (none)) else (some x3)
def reveilleref6_Print.l1 : Nat → ByteArray → List ByteArray → Int → Int → List (S37) → Option (ByteArray)
  | 0, _, _, _, _, _ => none
  | k + 1, x3, x4, x5, x6, x109000 => if x6 < (x109000.length : Int) then (if 0 ≤ x6 then (if 0 ≤ x5 then (if x5 < (x4.length : Int) then (if ((rd_T37 x109000 x6).f0).toList = (rdOf ByteArray.empty x4 x5).toList then (if x3.size + ((rd_T37 x109000 x6).f1).size ≤ 9223372036854775807 then (if (x3 ++ ((rd_T37 x109000 x6).f1)).size + 1 ≤ 9223372036854775807 then (if ((x3 ++ ((rd_T37 x109000 x6).f1)) ++ (⟨#[61]⟩ : ByteArray)).size + ((rd_T37 x109000 x6).f2).size ≤ 9223372036854775807 then (if (((x3 ++ ((rd_T37 x109000 x6).f1)) ++ (⟨#[61]⟩ : ByteArray)) ++ ((rd_T37 x109000 x6).f2)).size + 1 ≤ 9223372036854775807 then (reveilleref6_Print.l1 k ((((x3 ++ ((rd_T37 x109000 x6).f1)) ++ (⟨#[61]⟩ : ByteArray)) ++ ((rd_T37 x109000 x6).f2)) ++ (⟨#[10]⟩ : ByteArray)) x4 x5 (wrap64 (x6 + 1)) x109000) else (none)) else (none)) else (none)) else (none)) else (reveilleref6_Print.l1 k x3 x4 x5 (wrap64 (x6 + 1)) x109000)) else (none)) else (none)) else (none)) else (reveilleref6_Print.l0 k x3 x4 (wrap64 (x5 + 1)) x109000)
end
def reveilleref6_Print.f (k : Nat) (l0_0 : List (S37)) : Option (ByteArray) := (reveilleref6_Sections.f k l0_0).bind fun t109 => (reveilleref6_Print.l0 k (⟨#[]⟩ : ByteArray) t109 0 l0_0)
theorem reveilleref6_Print.mono_l : ∀ k, (∀ y0 y1 y2 y3, LeO (reveilleref6_Print.l0 k y0 y1 y2 y3) (reveilleref6_Print.l0 (k + 1) y0 y1 y2 y3)) ∧ (∀ y0 y1 y2 y3 y4, LeO (reveilleref6_Print.l1 k y0 y1 y2 y3 y4) (reveilleref6_Print.l1 (k + 1) y0 y1 y2 y3 y4))
  | 0 => ⟨fun _ _ _ _ r h => by simp [reveilleref6_Print.l0] at h, fun _ _ _ _ _ r h => by simp [reveilleref6_Print.l1] at h⟩
  | k + 1 => by
    obtain ⟨ih0, ih1⟩ := reveilleref6_Print.mono_l k
    refine ⟨?_, ?_⟩
    · intro y0 y1 y2 y3
      unfold reveilleref6_Print.l0
      repeat' first
      | (with_reducible exact ih0 _ _ _ _)
      | (with_reducible exact ih1 _ _ _ _ _)
      | (with_reducible exact reveilleref6_Sections.mono _ _)
      | (with_reducible exact LeO.refl _)
      | (with_reducible exact LeO.none _)
      | (with_reducible refine LeO.ite ?_ ?_)
      | (with_reducible refine LeO.bind ?_ (fun _ => ?_))
      | exact ih0 _ _ _ _
      | exact ih1 _ _ _ _ _
      | exact reveilleref6_Sections.mono _ _
      | exact LeO.none _
      | refine LeO.ite ?_ ?_
      | refine LeO.bind ?_ (fun _ => ?_)
    · intro y0 y1 y2 y3 y4
      unfold reveilleref6_Print.l1
      repeat' first
      | (with_reducible exact ih0 _ _ _ _)
      | (with_reducible exact ih1 _ _ _ _ _)
      | (with_reducible exact reveilleref6_Sections.mono _ _)
      | (with_reducible exact LeO.refl _)
      | (with_reducible exact LeO.none _)
      | (with_reducible refine LeO.ite ?_ ?_)
      | (with_reducible refine LeO.bind ?_ (fun _ => ?_))
      | exact ih0 _ _ _ _
      | exact ih1 _ _ _ _ _
      | exact reveilleref6_Sections.mono _ _
      | exact LeO.none _
      | refine LeO.ite ?_ ?_
      | refine LeO.bind ?_ (fun _ => ?_)
theorem reveilleref6_Print.mono : ∀ a0 k, LeO (reveilleref6_Print.f k a0) (reveilleref6_Print.f (k + 1) a0) := by
  intro a0 k
  obtain ⟨ih0, ih1⟩ := reveilleref6_Print.mono_l k
  unfold reveilleref6_Print.f
  repeat' first
      | (with_reducible exact ih0 _ _ _ _)
      | (with_reducible exact ih1 _ _ _ _ _)
      | (with_reducible exact reveilleref6_Sections.mono _ _)
      | (with_reducible exact LeO.refl _)
      | (with_reducible exact LeO.none _)
      | (with_reducible refine LeO.ite ?_ ?_)
      | (with_reducible refine LeO.bind ?_ (fun _ => ?_))
      | exact ih0 _ _ _ _
      | exact ih1 _ _ _ _ _
      | exact reveilleref6_Sections.mono _ _
      | exact LeO.none _
      | refine LeO.ite ?_ ?_
      | refine LeO.bind ?_ (fun _ => ?_)
set_option maxHeartbeats 8000000 in
set_option maxRecDepth 100000 in
theorem reveilleref6_Print.calls (k : Nat) (A0_0 : Option Addr) (c0_0 : Nat) (l0_0 : List (S37)) (r : ByteArray) (w : World) (hr0_0 : Kd.C k37 w A0_0 l0_0.length l0_0) (hc0_0 : l0_0.length ≤ c0_0) (h : reveilleref6_Print.f k l0_0 = some r) :
    Calls Tryd.prog 19 #[.agg #[.slice A0_0 l0_0.length c0_0]] w fun e w' => e = .returned (.string r) ∧ Below w.heap.size w w' := by
  have hu25 := Tryd.underlying25
  have HR0_0 := Aside0.mk hr0_0
  have HC0_0 := Aside0.mk hc0_0
  clear hr0_0 hc0_0
  have HB := Aside0.mk (Below.refl w.heap.size w)
  have H : ((reveilleref6_Sections.f k l0_0).bind fun t109 => (reveilleref6_Print.l0 k (⟨#[]⟩ : ByteArray) t109 0 l0_0)) = some r := h
  clear h
  replace H := Option.bind_eq_some_iff.mp H
  obtain ⟨t109, A20, H⟩ := H
  replace H : (reveilleref6_Print.l0 k (⟨#[]⟩ : ByteArray) t109 0 l0_0) = some r := H
  have A2 := Aside0.mk A20
  clear A20
  have H' := Aside0.mk H
  clear H
  go_enter Tryd.func19, Tryd.ntmps19
  go_wp2_with (first | ((with_reducible refine gate_dst (N := 1) rfl ?_); refine box_event ?hg (N := 1) ?hd (cs := #[.slice A0_0 l0_0.length c0_0]) (t := 25) ?hr ?_; (case hd => rfl); (case hg => rfl); (case hr => first | (go_simp; done) | (go_simp; rfl)); intro gb108 hg w3 hbox hb; have n0_ := Aside0.mk (below_step (by repeat (first | (with_reducible first | exact HB.out | apply below_alloc | apply pw_below_drewN | apply below_drew1) | exact HB.out)) hb); have n1_ := Aside0.mk (hbox); have n2_ := Aside0.mk ((by rw [hg]; exact (below_size (by repeat (first | (with_reducible first | exact HB.out | apply below_alloc | apply pw_below_drewN | apply below_drew1) | exact HB.out))) : w.heap.size ≤ gb108)); have n3_ := Aside0.mk ((by rw [hg]; exact (below_size (by repeat (first | (with_reducible first | exact HB.out | apply below_alloc | apply pw_below_drewN | apply below_drew1) | exact HB.out))) : w.heap.size ≤ gb108)); clear HB; have HB := n0_; have BK108 := n1_; have GW108 := n2_; have GE108 := n3_; clear n0_ n1_ n2_ n3_; clear hb hbox hg; have hcz4_0 : w3.cell? ⟨gb108, 0, none⟩ = some (.slice A0_0 l0_0.length c0_0) := (blk_cell BK108.out 0).trans rfl; have hfz4_0 := blk_frozen BK108.out 0) | (go_at_call 23; (with_reducible refine (reveilleref6_Sections.calls k _ _ l0_0 t109 _ ?side1 ?side2 A2.out).mono ?_); (case side1 => repeat (first | exact (Kd.C_below HR0_0.out HB.out) | (with_reducible refine Kd.C_alloc ?_ _) | (with_reducible refine Kd.C_drewN ?_ _) | (with_reducible refine Kd.C_drew ?_))); (case side2 => exact HC0_0.out); rintro e w5 ⟨v110, rfl, ho0, hb⟩; have n0_ := Aside0.mk (Kd.R_lower ho0 (below_size (by repeat (first | (with_reducible first | exact HB.out | apply below_alloc | apply pw_below_drewN | apply below_drew1 | refine below_set ?_ GE108.out) | exact HB.out)))); have n1_ := Aside0.mk (blk_below (g := gb108) (o := .cells #[.slice A0_0 l0_0.length c0_0] 25 (0, 0)) (by (with_reducible repeat (first | refine blk_drewN ?_ _ | refine blk_drew ?_ | refine blk_alloc ?_ _)); exact BK108.out) hb); have n2_ := Aside0.mk (below_step (by repeat (first | (with_reducible first | exact HB.out | apply below_alloc | apply pw_below_drewN | apply below_drew1 | refine below_set ?_ GE108.out) | exact HB.out)) hb); clear BK108; clear HB; have HO111 := n0_; have BK108 := n1_; have HB := n2_; clear n0_ n1_ n2_; (try clear hb); (try clear hb2); (try clear hk); (try clear hi); (try clear ho0)))
  repeat (go_quiet (first | ((with_reducible refine gate_dst (N := 1) rfl ?_); refine box_event ?hg (N := 1) ?hd (cs := #[.slice A0_0 l0_0.length c0_0]) (t := 25) ?hr ?_; (case hd => rfl); (case hg => rfl); (case hr => first | (go_simp; done) | (go_simp; rfl)); intro gb108 hg w3 hbox hb; have n0_ := Aside0.mk (below_step (by repeat (first | (with_reducible first | exact HB.out | apply below_alloc | apply pw_below_drewN | apply below_drew1) | exact HB.out)) hb); have n1_ := Aside0.mk (hbox); have n2_ := Aside0.mk ((by rw [hg]; exact (below_size (by repeat (first | (with_reducible first | exact HB.out | apply below_alloc | apply pw_below_drewN | apply below_drew1) | exact HB.out))) : w.heap.size ≤ gb108)); have n3_ := Aside0.mk ((by rw [hg]; exact (below_size (by repeat (first | (with_reducible first | exact HB.out | apply below_alloc | apply pw_below_drewN | apply below_drew1) | exact HB.out))) : w.heap.size ≤ gb108)); clear HB; have HB := n0_; have BK108 := n1_; have GW108 := n2_; have GE108 := n3_; clear n0_ n1_ n2_ n3_; clear hb hbox hg; have hcz4_0 : w3.cell? ⟨gb108, 0, none⟩ = some (.slice A0_0 l0_0.length c0_0) := (blk_cell BK108.out 0).trans rfl; have hfz4_0 := blk_frozen BK108.out 0) | (go_at_call 23; (with_reducible refine (reveilleref6_Sections.calls k _ _ l0_0 t109 _ ?side1 ?side2 A2.out).mono ?_); (case side1 => repeat (first | exact (Kd.C_below HR0_0.out HB.out) | (with_reducible refine Kd.C_alloc ?_ _) | (with_reducible refine Kd.C_drewN ?_ _) | (with_reducible refine Kd.C_drew ?_))); (case side2 => exact HC0_0.out); rintro e w5 ⟨v110, rfl, ho0, hb⟩; have n0_ := Aside0.mk (Kd.R_lower ho0 (below_size (by repeat (first | (with_reducible first | exact HB.out | apply below_alloc | apply pw_below_drewN | apply below_drew1 | refine below_set ?_ GE108.out) | exact HB.out)))); have n1_ := Aside0.mk (blk_below (g := gb108) (o := .cells #[.slice A0_0 l0_0.length c0_0] 25 (0, 0)) (by (with_reducible repeat (first | refine blk_drewN ?_ _ | refine blk_drew ?_ | refine blk_alloc ?_ _)); exact BK108.out) hb); have n2_ := Aside0.mk (below_step (by repeat (first | (with_reducible first | exact HB.out | apply below_alloc | apply pw_below_drewN | apply below_drew1 | refine below_set ?_ GE108.out) | exact HB.out)) hb); clear BK108; clear HB; have HO111 := n0_; have BK108 := n1_; have HB := n2_; clear n0_ n1_ n2_; (try clear hb); (try clear hb2); (try clear hk); (try clear hi); (try clear ho0))); try go_wp2_with (first | ((with_reducible refine gate_dst (N := 1) rfl ?_); refine box_event ?hg (N := 1) ?hd (cs := #[.slice A0_0 l0_0.length c0_0]) (t := 25) ?hr ?_; (case hd => rfl); (case hg => rfl); (case hr => first | (go_simp; done) | (go_simp; rfl)); intro gb108 hg w3 hbox hb; have n0_ := Aside0.mk (below_step (by repeat (first | (with_reducible first | exact HB.out | apply below_alloc | apply pw_below_drewN | apply below_drew1) | exact HB.out)) hb); have n1_ := Aside0.mk (hbox); have n2_ := Aside0.mk ((by rw [hg]; exact (below_size (by repeat (first | (with_reducible first | exact HB.out | apply below_alloc | apply pw_below_drewN | apply below_drew1) | exact HB.out))) : w.heap.size ≤ gb108)); have n3_ := Aside0.mk ((by rw [hg]; exact (below_size (by repeat (first | (with_reducible first | exact HB.out | apply below_alloc | apply pw_below_drewN | apply below_drew1) | exact HB.out))) : w.heap.size ≤ gb108)); clear HB; have HB := n0_; have BK108 := n1_; have GW108 := n2_; have GE108 := n3_; clear n0_ n1_ n2_ n3_; clear hb hbox hg; have hcz4_0 : w3.cell? ⟨gb108, 0, none⟩ = some (.slice A0_0 l0_0.length c0_0) := (blk_cell BK108.out 0).trans rfl; have hfz4_0 := blk_frozen BK108.out 0) | (go_at_call 23; (with_reducible refine (reveilleref6_Sections.calls k _ _ l0_0 t109 _ ?side1 ?side2 A2.out).mono ?_); (case side1 => repeat (first | exact (Kd.C_below HR0_0.out HB.out) | (with_reducible refine Kd.C_alloc ?_ _) | (with_reducible refine Kd.C_drewN ?_ _) | (with_reducible refine Kd.C_drew ?_))); (case side2 => exact HC0_0.out); rintro e w5 ⟨v110, rfl, ho0, hb⟩; have n0_ := Aside0.mk (Kd.R_lower ho0 (below_size (by repeat (first | (with_reducible first | exact HB.out | apply below_alloc | apply pw_below_drewN | apply below_drew1 | refine below_set ?_ GE108.out) | exact HB.out)))); have n1_ := Aside0.mk (blk_below (g := gb108) (o := .cells #[.slice A0_0 l0_0.length c0_0] 25 (0, 0)) (by (with_reducible repeat (first | refine blk_drewN ?_ _ | refine blk_drew ?_ | refine blk_alloc ?_ _)); exact BK108.out) hb); have n2_ := Aside0.mk (below_step (by repeat (first | (with_reducible first | exact HB.out | apply below_alloc | apply pw_below_drewN | apply below_drew1 | refine below_set ?_ GE108.out) | exact HB.out)) hb); clear BK108; clear HB; have HO111 := n0_; have BK108 := n1_; have HB := n2_; clear n0_ n1_ n2_; (try clear hb); (try clear hb2); (try clear hk); (try clear hi); (try clear ho0))))
  go_loopg [3, 5] k (fun kq v3 v5 w' => ∃ (x3_1 : ByteArray) (x5_1 : Int), v3 = .string x3_1 ∧ v5 = .int .i64 x5_1 ∧ Aside0 (reveilleref6_Print.l0 kq x3_1 t109 x5_1 l0_0 = some r) ∧ Aside0 (kq ≤ k) ∧ Aside0 (Kd.R Kd.string 9 w' w.heap.size (fun _ => True) v110 t109) ∧ Aside0 (w'.heap[gb108]? = some (.cells #[(.slice A0_0 l0_0.length c0_0)] 25 (0, 0))) ∧ Aside0 (Below w.heap.size w w'))
  case atStart => exact ⟨((⟨#[]⟩ : ByteArray)), (0), (by first | rfl | (simp; done) | (simp [*]; done)), (by first | rfl | (simp; done) | (simp [*]; done)), H', ⟨Nat.le_refl _⟩, ⟨by (with_reducible repeat (first | apply Kd.R_alloc | apply Kd.R_drewN | apply Kd.R_drew)); exact HO111.out⟩, ⟨by (with_reducible repeat (first | refine blk_drewN ?_ _ | refine blk_drew ?_ | refine blk_alloc ?_ _)); exact BK108.out⟩, ⟨by repeat (first | (with_reducible first | exact HB.out | apply below_alloc | apply pw_below_drewN | apply below_drew1 | refine below_set ?_ GE108.out) | exact HB.out)⟩⟩
  case round =>
    clear H'
    try clear c1
    try clear p2
    try clear hcz4_0
    try clear hfz4_0
    obtain ⟨x3_1, x5_1, rfl, rfl, HA, HK1, HO_4, BK108, HB⟩ := hrel
    cases gk with
    | zero => exact absurd HA.out (by simp [reveilleref6_Print.l0])
    | succ k1 =>
      have H := HA.out
      clear HA
      simp only [reveilleref6_Print.l0] at H
      by_cases c6 : x5_1 < (t109.length : Int)
      · rw [if_pos c6] at H
        have c6b0 : decide (x5_1 < (t109.length : Int)) = true := decide_eq_true c6
        clear c6
        by_cases c7 : x3_1.size + 1 ≤ 9223372036854775807
        · rw [if_pos c7] at H
          have c7b0 := eq_true c7
          have c7b1 : decide (x3_1.size + 1 ≤ 9223372036854775807) = true := decide_eq_true c7
          try have c7b2 : (9223372036854775807 < x3_1.size + 1) = False := eq_false (Nat.not_lt.2 c7)
          by_cases c8 : 0 ≤ x5_1
          · rw [if_pos c8] at H
            have c8b0 : decide (0 ≤ x5_1) = true := decide_eq_true c8
            clear c8
            by_cases c9 : (x3_1 ++ (⟨#[91]⟩ : ByteArray)).size + (rdOf ByteArray.empty t109 x5_1).size ≤ 9223372036854775807
            · rw [if_pos c9] at H
              have c9b0 := eq_true c9
              have c9b1 : decide ((x3_1 ++ (⟨#[91]⟩ : ByteArray)).size + (rdOf ByteArray.empty t109 x5_1).size ≤ 9223372036854775807) = true := decide_eq_true c9
              try have c9b2 : (9223372036854775807 < (x3_1 ++ (⟨#[91]⟩ : ByteArray)).size + (rdOf ByteArray.empty t109 x5_1).size) = False := eq_false (Nat.not_lt.2 c9)
              by_cases c10 : ((x3_1 ++ (⟨#[91]⟩ : ByteArray)) ++ (rdOf ByteArray.empty t109 x5_1)).size + 2 ≤ 9223372036854775807
              · rw [if_pos c10] at H
                have c10b0 := eq_true c10
                have c10b1 : decide (((x3_1 ++ (⟨#[91]⟩ : ByteArray)) ++ (rdOf ByteArray.empty t109 x5_1)).size + 2 ≤ 9223372036854775807) = true := decide_eq_true c10
                try have c10b2 : (9223372036854775807 < ((x3_1 ++ (⟨#[91]⟩ : ByteArray)) ++ (rdOf ByteArray.empty t109 x5_1)).size + 2) = False := eq_false (Nat.not_lt.2 c10)
                have H' := Aside0.mk H
                clear H
                obtain ⟨Ao11, co11, eo11⟩ := Kd.R_slice HO_4.out
                subst eo11
                have p112 : 0 ≤ (x5_1 : Int) := of_decide_eq_true (by first | (with_reducible assumption) | assumption)
                have q112 : x5_1 < (t109.length : Int) := of_decide_eq_true (by first | (with_reducible assumption) | assumption)
                obtain ⟨ad112, e112, hx112_0⟩ := Kd.at_string (Kd.R_reads' HO_4.out).2.2 x5_1 p112 q112
                cases e112
                replace p112 := eq_true p112
                replace q112 := eq_true q112
                go_wp2
                repeat (go_quiet (fail); try go_wp2)
                · exfalso; rename_i hbad; have c10' := c10; simp [ByteArray.size_append] at c10'; have e1 : (⟨#[91]⟩ : ByteArray).size = 1 := rfl; have e2 : (⟨#[93, 10]⟩ : ByteArray).size = 2 := rfl; omega
                go_loopg [3, 6] k1 (fun kq v3 v6 w' => ∃ (x3_2 : ByteArray) (x6_2 : Int), v3 = .string x3_2 ∧ v6 = .int .i64 x6_2 ∧ Aside0 (reveilleref6_Print.l1 kq x3_2 t109 x5_1 x6_2 l0_0 = some r) ∧ Aside0 (kq ≤ k1) ∧ Aside0 (Kd.R Kd.string 9 w' w.heap.size (fun _ => True) (.slice (some ad112) t109.length co11) t109) ∧ Aside0 (w'.heap[gb108]? = some (.cells #[(.slice A0_0 l0_0.length c0_0)] 25 (0, 0))) ∧ Aside0 (Below w.heap.size w w'))
                case atStart => exact ⟨(((x3_1 ++ (⟨#[91]⟩ : ByteArray)) ++ (rdOf ByteArray.empty t109 x5_1)) ++ (⟨#[93, 10]⟩ : ByteArray)), (0), (by first | rfl | (simp; done) | (simp [*]; done)), (by first | rfl | (simp; done) | (simp [*]; done)), H', ⟨Nat.le_refl _⟩, ⟨by (with_reducible repeat (first | apply Kd.R_alloc | apply Kd.R_drewN | apply Kd.R_drew)); exact HO_4.out⟩, ⟨by (with_reducible repeat (first | refine blk_drewN ?_ _ | refine blk_drew ?_ | refine blk_alloc ?_ _)); exact BK108.out⟩, ⟨by repeat (first | (with_reducible first | exact HB.out | apply below_alloc | apply pw_below_drewN | apply below_drew1 | refine below_set ?_ GE108.out) | exact HB.out)⟩⟩
                case round =>
                  clear H'
                  try clear c1
                  try clear p1
                  try clear q1
                  try clear hx1
                  try clear p2
                  try clear c6
                  try clear c6b0
                  try clear c7
                  try clear c7b0
                  try clear c7b1
                  try clear c7b2
                  try clear c8
                  try clear c8b0
                  try clear c9
                  try clear c9b0
                  try clear c9b1
                  try clear c9b2
                  try clear c10
                  try clear c10b0
                  try clear c10b1
                  try clear c10b2
                  try clear p11
                  try clear q11
                  try clear hx11
                  try clear hcz4_0
                  try clear hfz4_0
                  try clear hx112_0
                  try clear p112
                  try clear p2
                  try clear q112
                  obtain ⟨x3_2, x6_2, rfl, rfl, HA, HK2, HO_4, BK108, HB⟩ := hrel
                  cases gk with
                  | zero => exact absurd HA.out (by simp [reveilleref6_Print.l1])
                  | succ k2 =>
                    have H := HA.out
                    clear HA
                    simp only [reveilleref6_Print.l1] at H
                    by_cases c12 : x6_2 < (l0_0.length : Int)
                    · rw [if_pos c12] at H
                      have c12b0 : decide (x6_2 < (l0_0.length : Int)) = true := decide_eq_true c12
                      clear c12
                      by_cases c13 : 0 ≤ x6_2
                      · rw [if_pos c13] at H
                        have c13b0 : decide (0 ≤ x6_2) = true := decide_eq_true c13
                        clear c13
                        by_cases c14 : 0 ≤ x5_1
                        · rw [if_pos c14] at H
                          have c14b0 : decide (0 ≤ x5_1) = true := decide_eq_true c14
                          clear c14
                          by_cases c15 : x5_1 < (t109.length : Int)
                          · rw [if_pos c15] at H
                            have c15b0 : decide (x5_1 < (t109.length : Int)) = true := decide_eq_true c15
                            clear c15
                            by_cases c16 : ((rd_T37 l0_0 x6_2).f0).toList = (rdOf ByteArray.empty t109 x5_1).toList
                            · rw [if_pos c16] at H
                              have c16b0 : (((rd_T37 l0_0 x6_2).f0).toList == (rdOf ByteArray.empty t109 x5_1).toList) = true := beq_iff_eq.mpr c16
                              have c16b1 : (((rd_T37 l0_0 x6_2).f0).toList != (rdOf ByteArray.empty t109 x5_1).toList) = false := bne_eq_false_iff_eq.mpr c16
                              clear c16
                              by_cases c17 : x3_2.size + ((rd_T37 l0_0 x6_2).f1).size ≤ 9223372036854775807
                              · rw [if_pos c17] at H
                                have c17b0 := eq_true c17
                                have c17b1 : decide (x3_2.size + ((rd_T37 l0_0 x6_2).f1).size ≤ 9223372036854775807) = true := decide_eq_true c17
                                try have c17b2 : (9223372036854775807 < x3_2.size + ((rd_T37 l0_0 x6_2).f1).size) = False := eq_false (Nat.not_lt.2 c17)
                                by_cases c18 : (x3_2 ++ ((rd_T37 l0_0 x6_2).f1)).size + 1 ≤ 9223372036854775807
                                · rw [if_pos c18] at H
                                  have c18b0 := eq_true c18
                                  have c18b1 : decide ((x3_2 ++ ((rd_T37 l0_0 x6_2).f1)).size + 1 ≤ 9223372036854775807) = true := decide_eq_true c18
                                  try have c18b2 : (9223372036854775807 < (x3_2 ++ ((rd_T37 l0_0 x6_2).f1)).size + 1) = False := eq_false (Nat.not_lt.2 c18)
                                  by_cases c19 : ((x3_2 ++ ((rd_T37 l0_0 x6_2).f1)) ++ (⟨#[61]⟩ : ByteArray)).size + ((rd_T37 l0_0 x6_2).f2).size ≤ 9223372036854775807
                                  · rw [if_pos c19] at H
                                    have c19b0 := eq_true c19
                                    have c19b1 : decide (((x3_2 ++ ((rd_T37 l0_0 x6_2).f1)) ++ (⟨#[61]⟩ : ByteArray)).size + ((rd_T37 l0_0 x6_2).f2).size ≤ 9223372036854775807) = true := decide_eq_true c19
                                    try have c19b2 : (9223372036854775807 < ((x3_2 ++ ((rd_T37 l0_0 x6_2).f1)) ++ (⟨#[61]⟩ : ByteArray)).size + ((rd_T37 l0_0 x6_2).f2).size) = False := eq_false (Nat.not_lt.2 c19)
                                    by_cases c20 : (((x3_2 ++ ((rd_T37 l0_0 x6_2).f1)) ++ (⟨#[61]⟩ : ByteArray)) ++ ((rd_T37 l0_0 x6_2).f2)).size + 1 ≤ 9223372036854775807
                                    · rw [if_pos c20] at H
                                      have c20b0 := eq_true c20
                                      have c20b1 : decide ((((x3_2 ++ ((rd_T37 l0_0 x6_2).f1)) ++ (⟨#[61]⟩ : ByteArray)) ++ ((rd_T37 l0_0 x6_2).f2)).size + 1 ≤ 9223372036854775807) = true := decide_eq_true c20
                                      try have c20b2 : (9223372036854775807 < (((x3_2 ++ ((rd_T37 l0_0 x6_2).f1)) ++ (⟨#[61]⟩ : ByteArray)) ++ ((rd_T37 l0_0 x6_2).f2)).size + 1) = False := eq_false (Nat.not_lt.2 c20)
                                      have H' := Aside0.mk H
                                      clear H
                                      have hcz21_0 : wr.cell? ⟨gb108, 0, none⟩ = some (.slice A0_0 l0_0.length c0_0) := (blk_cell BK108.out 0).trans rfl
                                      have hfz21_0 := blk_frozen BK108.out 0
                                      have p113 : 0 ≤ (x6_2 : Int) := of_decide_eq_true (by first | (with_reducible assumption) | assumption)
                                      have q113 : x6_2 < (l0_0.length : Int) := of_decide_eq_true (by first | (with_reducible assumption) | assumption)
                                      obtain ⟨ad113, e113, hx113_0, hx113_1, hx113_2, hx113_3⟩ := at_T37 HR0_0.out x6_2 p113 q113
                                      cases e113
                                      replace hx113_0 := (HB.out.cell (World.block_lt_of_cell? w _ hx113_0)).trans hx113_0
                                      replace hx113_1 := (HB.out.cell (World.block_lt_of_cell? w _ hx113_1)).trans hx113_1
                                      replace hx113_2 := (HB.out.cell (World.block_lt_of_cell? w _ hx113_2)).trans hx113_2
                                      replace hx113_3 := (HB.out.cell (World.block_lt_of_cell? w _ hx113_3)).trans hx113_3
                                      replace p113 := eq_true p113
                                      replace q113 := eq_true q113
                                      have p114 : 0 ≤ (x5_1 : Int) := of_decide_eq_true (by first | (with_reducible assumption) | assumption)
                                      have q114 : x5_1 < (t109.length : Int) := of_decide_eq_true (by first | (with_reducible assumption) | assumption)
                                      obtain ⟨ad114, e114, hx114_0⟩ := Kd.at_string (Kd.R_reads' HO_4.out).2.2 x5_1 p114 q114
                                      obtain rfl : ad112 = ad114 := (by injection e114)
                                      replace p114 := eq_true p114
                                      replace q114 := eq_true q114
                                      have p115 : 0 ≤ (x6_2 : Int) := of_decide_eq_true (by first | (with_reducible assumption) | assumption)
                                      have q115 : x6_2 < (l0_0.length : Int) := of_decide_eq_true (by first | (with_reducible assumption) | assumption)
                                      obtain ⟨ad115, e115, hx115_0, hx115_1, hx115_2, hx115_3⟩ := at_T37 HR0_0.out x6_2 p115 q115
                                      obtain rfl : ad113 = ad115 := (by injection e115)
                                      replace hx115_0 := (HB.out.cell (World.block_lt_of_cell? w _ hx115_0)).trans hx115_0
                                      replace hx115_1 := (HB.out.cell (World.block_lt_of_cell? w _ hx115_1)).trans hx115_1
                                      replace hx115_2 := (HB.out.cell (World.block_lt_of_cell? w _ hx115_2)).trans hx115_2
                                      replace hx115_3 := (HB.out.cell (World.block_lt_of_cell? w _ hx115_3)).trans hx115_3
                                      replace p115 := eq_true p115
                                      replace q115 := eq_true q115
                                      have p116 : 0 ≤ (x6_2 : Int) := of_decide_eq_true (by first | (with_reducible assumption) | assumption)
                                      have q116 : x6_2 < (l0_0.length : Int) := of_decide_eq_true (by first | (with_reducible assumption) | assumption)
                                      obtain ⟨ad116, e116, hx116_0, hx116_1, hx116_2, hx116_3⟩ := at_T37 HR0_0.out x6_2 p116 q116
                                      obtain rfl : ad113 = ad116 := (by injection e116)
                                      replace hx116_0 := (HB.out.cell (World.block_lt_of_cell? w _ hx116_0)).trans hx116_0
                                      replace hx116_1 := (HB.out.cell (World.block_lt_of_cell? w _ hx116_1)).trans hx116_1
                                      replace hx116_2 := (HB.out.cell (World.block_lt_of_cell? w _ hx116_2)).trans hx116_2
                                      replace hx116_3 := (HB.out.cell (World.block_lt_of_cell? w _ hx116_3)).trans hx116_3
                                      replace p116 := eq_true p116
                                      replace q116 := eq_true q116
                                      have e61 : (⟨#[61]⟩ : ByteArray).size = 1 := rfl
                                      have c18n : x3_2.size + ((rd_T37 l0_0 x6_2).f1).size + 1 ≤ 9223372036854775807 := by have q := c18; simp [ByteArray.size_append] at q; omega
                                      have c18m : (9223372036854775807 < x3_2.size + ((rd_T37 l0_0 x6_2).f1).size + 1) = False := eq_false (Nat.not_lt.2 c18n)
                                      have c18k : (x3_2.size + ((rd_T37 l0_0 x6_2).f1).size + 1 ≤ 9223372036854775807) = True := eq_true c18n
                                      have c19n : x3_2.size + ((rd_T37 l0_0 x6_2).f1).size + 1 + ((rd_T37 l0_0 x6_2).f2).size ≤ 9223372036854775807 := by have q := c19; simp [ByteArray.size_append] at q; omega
                                      have c19m : (9223372036854775807 < x3_2.size + ((rd_T37 l0_0 x6_2).f1).size + 1 + ((rd_T37 l0_0 x6_2).f2).size) = False := eq_false (Nat.not_lt.2 c19n)
                                      have c19k : (x3_2.size + ((rd_T37 l0_0 x6_2).f1).size + 1 + ((rd_T37 l0_0 x6_2).f2).size ≤ 9223372036854775807) = True := eq_true c19n
                                      have c20n : x3_2.size + ((rd_T37 l0_0 x6_2).f1).size + 1 + ((rd_T37 l0_0 x6_2).f2).size + 1 ≤ 9223372036854775807 := by have q := c20; simp [ByteArray.size_append] at q; omega
                                      have c20m : (9223372036854775807 < x3_2.size + ((rd_T37 l0_0 x6_2).f1).size + 1 + ((rd_T37 l0_0 x6_2).f2).size + 1) = False := eq_false (Nat.not_lt.2 c20n)
                                      have c20k : (x3_2.size + ((rd_T37 l0_0 x6_2).f1).size + 1 + ((rd_T37 l0_0 x6_2).f2).size + 1 ≤ 9223372036854775807) = True := eq_true c20n
                                      go_wp2
                                      repeat (go_quiet (fail); try go_wp2)
                                      go_roundg k2
                                      case measure => have := HK1.out; have := HK2.out; omega
                                      case rel => exact ⟨((((x3_2 ++ ((rd_T37 l0_0 x6_2).f1)) ++ (⟨#[61]⟩ : ByteArray)) ++ ((rd_T37 l0_0 x6_2).f2)) ++ (⟨#[10]⟩ : ByteArray)), (wrap64 (x6_2 + 1)), (by first | rfl | (simp; done) | (simp [*]; done)), (by first | rfl | (simp; done) | (simp [*]; done)), H', ⟨by have := HK1.out; have := HK2.out; omega⟩, ⟨by (with_reducible repeat (first | apply Kd.R_alloc | apply Kd.R_drewN | apply Kd.R_drew)); exact HO_4.out⟩, ⟨by (with_reducible repeat (first | refine blk_drewN ?_ _ | refine blk_drew ?_ | refine blk_alloc ?_ _)); exact BK108.out⟩, ⟨by repeat (first | (with_reducible first | exact HB.out | apply below_alloc | apply pw_below_drewN | apply below_drew1 | refine below_set ?_ GE108.out) | exact HB.out)⟩⟩
                                    · rw [if_neg c20] at H
                                      exact absurd H (by simp)
                                  · rw [if_neg c19] at H
                                    exact absurd H (by simp)
                                · rw [if_neg c18] at H
                                  exact absurd H (by simp)
                              · rw [if_neg c17] at H
                                exact absurd H (by simp)
                            · rw [if_neg c16] at H
                              have c16b0 : (((rd_T37 l0_0 x6_2).f0).toList == (rdOf ByteArray.empty t109 x5_1).toList) = false := beq_eq_false_iff_ne.mpr c16
                              have c16b1 : (((rd_T37 l0_0 x6_2).f0).toList != (rdOf ByteArray.empty t109 x5_1).toList) = true := bne_iff_ne.mpr c16
                              have H' := Aside0.mk H
                              clear H
                              have hcz22_0 : wr.cell? ⟨gb108, 0, none⟩ = some (.slice A0_0 l0_0.length c0_0) := (blk_cell BK108.out 0).trans rfl
                              have hfz22_0 := blk_frozen BK108.out 0
                              have p113 : 0 ≤ (x6_2 : Int) := of_decide_eq_true (by first | (with_reducible assumption) | assumption)
                              have q113 : x6_2 < (l0_0.length : Int) := of_decide_eq_true (by first | (with_reducible assumption) | assumption)
                              obtain ⟨ad113, e113, hx113_0, hx113_1, hx113_2, hx113_3⟩ := at_T37 HR0_0.out x6_2 p113 q113
                              cases e113
                              replace hx113_0 := (HB.out.cell (World.block_lt_of_cell? w _ hx113_0)).trans hx113_0
                              replace hx113_1 := (HB.out.cell (World.block_lt_of_cell? w _ hx113_1)).trans hx113_1
                              replace hx113_2 := (HB.out.cell (World.block_lt_of_cell? w _ hx113_2)).trans hx113_2
                              replace hx113_3 := (HB.out.cell (World.block_lt_of_cell? w _ hx113_3)).trans hx113_3
                              replace p113 := eq_true p113
                              replace q113 := eq_true q113
                              have p114 : 0 ≤ (x5_1 : Int) := of_decide_eq_true (by first | (with_reducible assumption) | assumption)
                              have q114 : x5_1 < (t109.length : Int) := of_decide_eq_true (by first | (with_reducible assumption) | assumption)
                              obtain ⟨ad114, e114, hx114_0⟩ := Kd.at_string (Kd.R_reads' HO_4.out).2.2 x5_1 p114 q114
                              obtain rfl : ad112 = ad114 := (by injection e114)
                              replace p114 := eq_true p114
                              replace q114 := eq_true q114
                              go_wp2
                              repeat (go_quiet (fail); try go_wp2)
                              go_roundg k2
                              case measure => have := HK1.out; have := HK2.out; omega
                              case rel => exact ⟨(x3_2), (wrap64 (x6_2 + 1)), (by first | rfl | (simp; done) | (simp [*]; done)), (by first | rfl | (simp; done) | (simp [*]; done)), H', ⟨by have := HK1.out; have := HK2.out; omega⟩, ⟨by (with_reducible repeat (first | apply Kd.R_alloc | apply Kd.R_drewN | apply Kd.R_drew)); exact HO_4.out⟩, ⟨by (with_reducible repeat (first | refine blk_drewN ?_ _ | refine blk_drew ?_ | refine blk_alloc ?_ _)); exact BK108.out⟩, ⟨by repeat (first | (with_reducible first | exact HB.out | apply below_alloc | apply pw_below_drewN | apply below_drew1 | refine below_set ?_ GE108.out) | exact HB.out)⟩⟩
                          · rw [if_neg c15] at H
                            exact absurd H (by simp)
                        · rw [if_neg c14] at H
                          exact absurd H (by simp)
                      · rw [if_neg c13] at H
                        exact absurd H (by simp)
                    · rw [if_neg c12] at H
                      have c12b0 : decide (x6_2 < (l0_0.length : Int)) = false := decide_eq_false c12
                      clear c12
                      have H' := Aside0.mk H
                      clear H
                      have hcz23_0 : wr.cell? ⟨gb108, 0, none⟩ = some (.slice A0_0 l0_0.length c0_0) := (blk_cell BK108.out 0).trans rfl
                      have hfz23_0 := blk_frozen BK108.out 0
                      go_wp2
                      repeat (go_quiet (fail); try go_wp2)
                      go_roundg k2
                      case measure => have := HK1.out; have := HK2.out; omega
                      case rel => exact ⟨(x3_2), (wrap64 (x5_1 + 1)), (by first | rfl | (simp; done) | (simp [*]; done)), (by first | rfl | (simp; done) | (simp [*]; done)), H', ⟨by have := HK1.out; have := HK2.out; omega⟩, ⟨by (with_reducible repeat (first | apply Kd.R_alloc | apply Kd.R_drewN | apply Kd.R_drew)); exact HO_4.out⟩, ⟨by (with_reducible repeat (first | refine blk_drewN ?_ _ | refine blk_drew ?_ | refine blk_alloc ?_ _)); exact BK108.out⟩, ⟨by repeat (first | (with_reducible first | exact HB.out | apply below_alloc | apply pw_below_drewN | apply below_drew1 | refine below_set ?_ GE108.out) | exact HB.out)⟩⟩
              · rw [if_neg c10] at H
                exact absurd H (by simp)
            · rw [if_neg c9] at H
              exact absurd H (by simp)
          · rw [if_neg c8] at H
            exact absurd H (by simp)
        · rw [if_neg c7] at H
          exact absurd H (by simp)
      · rw [if_neg c6] at H
        have c6b0 : decide (x5_1 < (t109.length : Int)) = false := decide_eq_false c6
        clear c6
        obtain rfl := Option.some.inj H
        obtain ⟨Ao24, co24, eo24⟩ := Kd.R_slice HO_4.out
        subst eo24
        go_wp2
        repeat (go_quiet (fail); try go_wp2)
        go_ret
        exact ⟨by first | rfl | (simp [errW_none, errW_some] <;> rfl) | (simp [*, errW_none, errW_some] <;> rfl), by repeat (first | (with_reducible first | exact HB.out | apply below_alloc | apply pw_below_drewN | apply below_drew1 | refine below_set ?_ GE108.out) | exact HB.out)⟩

end Go.Proofs.YtbigbjfppaenfaaDoor.Lines
