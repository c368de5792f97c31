/- service.New and State; few, Few, Short. -/
import Derived.Test.YtnoddedgkgkfhaaSvcM
import Derived.Laws.Tables
namespace Go.Proofs.Ytnoddedgkgkfhaa.Svc
open Go.RowKit Go.Proofs.YtnoddedgkgkfhaaW.PrintWords Go.Proofs.YtnoddedgkgkfhaaW.PrintLast
set_option linter.unusedVariables false
set_option linter.unusedSimpArgs false
/-! #### struct type 38 -/
structure S38 where
  f0 : Int
  f1 : Int
  f2 : Int
  f3 : ByteArray
  f4 : Int
def z38 : S38 := ⟨(0 : Int), (0 : Int), (0 : Int), (⟨#[]⟩ : ByteArray), (0 : Int)⟩
def k38 : Kd S38 := Kd.iso (Kd.pair (Kd.int .i64) (Kd.pair (Kd.int .i64) (Kd.pair (Kd.int .i64) (Kd.pair Kd.string (Kd.int .i64))))) (fun x : S38 => (x.f0, x.f1, x.f2, x.f3, x.f4))
theorem k38_open {w : World} {x : S38} {cs : List Value} (h : k38.K w x cs) : cs = [.int .i64 x.f0, .int .i64 x.f1, .int .i64 x.f2, .string x.f3, .int .i64 x.f4] := by
  obtain ⟨_, _, rfl, rfl, ⟨_, _, rfl, rfl, ⟨_, _, rfl, rfl, ⟨_, _, rfl, rfl, rfl⟩⟩⟩⟩ := h
  exact rfl
def rd_T38 (xs : List S38) (i : Int) : S38 := xs.getD i.toNat z38
theorem at_T38 {w : World} {A : Option Addr} {n : Nat} {xs : List S38} (h : Kd.C k38 w A n xs) (i : Int) (h0 : 0 ≤ i) (h1 : i < n) : ∃ ad , A = some ad ∧ w.cell? (ad.add (i.toNat * 5)) = some (.int .i64 (rd_T38 xs i).f0) ∧ w.cell? ⟨(ad.add (i.toNat * 5)).block, (ad.add (i.toNat * 5)).off + 1, none⟩ = some (.int .i64 (rd_T38 xs i).f1) ∧ w.cell? ⟨(ad.add (i.toNat * 5)).block, (ad.add (i.toNat * 5)).off + 2, none⟩ = some (.int .i64 (rd_T38 xs i).f2) ∧ w.cell? ⟨(ad.add (i.toNat * 5)).block, (ad.add (i.toNat * 5)).off + 3, none⟩ = some (.string (rd_T38 xs i).f3) ∧ w.cell? ⟨(ad.add (i.toNat * 5)).block, (ad.add (i.toNat * 5)).off + 4, none⟩ = some (.int .i64 (rd_T38 xs i).f4) := by
  obtain ⟨ad, c, e, _, hK, hc0⟩ := Kd.C_get h z38 i h0 h1
  have hc : ∀ j u, c[j]? = some u → w.cell? (ad.add (i.toNat * 5 + j)) = some u := hc0
  obtain rfl := k38_open hK
  exact ⟨ad, e, hc 0 _ rfl, by rw [← add_field _ _ 1 (by omega)]; exact hc 1 _ rfl, by rw [← add_field _ _ 2 (by omega)]; exact hc 2 _ rfl, by rw [← add_field _ _ 3 (by omega)]; exact hc 3 _ rfl, by rw [← add_field _ _ 4 (by omega)]; exact hc 4 _ rfl⟩

/-! ### service_New: function 16 -/
def service_New.f  : Option (Int × Int × Int × Int × List Int × Bool × Int × Bool) := some (1, 0, 0, 0, ([] : List Int), false, 0, false)
set_option maxHeartbeats 8000000 in
set_option maxRecDepth 100000 in
theorem service_New.calls  (r1 : Int) (r2 : Int) (r3 : Int) (r4 : Int) (r5 : List Int) (r6 : Bool) (r7 : Int) (r8 : Bool) (w : World) (h : service_New.f  = some (r1, r2, r3, r4, r5, r6, r7, r8)) :
    Calls Try.prog 16 #[] w fun e w' => ∃ v4_ : Value, e = .returned (.agg #[.int .i64 r1, .int .i64 r2, .int .i64 r3, .int .i64 r4, v4_, .bool r6, .int .i64 r7, .bool r8]) ∧ Kd.R (Kd.int .i64) 2 w' w.heap.size (fun _ => True) v4_ r5 ∧ Below w.heap.size w w' := by
  have hu30 := Try.underlying30
  have HB := Aside0.mk (Below.refl w.heap.size w)
  have H : (some (1, 0, 0, 0, ([] : List Int), false, 0, false)) = some (r1, r2, r3, r4, r5, r6, r7, r8) := h
  clear h
  simp only [Option.some.injEq, Prod.mk.injEq] at H
  obtain ⟨rfl, rfl, rfl, rfl, rfl, rfl, rfl, rfl⟩ := H
  go_enter Try.func16, Try.ntmps16
  go_wp2_with (first | ((with_reducible refine gate_dst (N := 0) rfl ?_); refine box_event ?hg (N := 0) ?hd (cs := #[.int .i64 0, .int .i64 0, .int .i64 0, .int .i64 0, .slice none 0 0, .bool false, .int .i64 0, .bool false]) (t := 30) ?hr ?_; (case hd => rfl); (case hg => rfl); (case hr => first | (go_simp; done) | (go_simp; rfl)); intro gb101 hg w1 hbox hb; have n0_ := Aside0.mk (below_step (by repeat (first | (with_reducible first | exact HB.out | apply below_alloc | apply pw_below_drewN | apply below_drew1) | exact HB.out)) hb); have n1_ := Aside0.mk (hbox); have n2_ := Aside0.mk ((by rw [hg]; exact (below_size (by repeat (first | (with_reducible first | exact HB.out | apply below_alloc | apply pw_below_drewN | apply below_drew1) | exact HB.out))) : w.heap.size ≤ gb101)); have n3_ := Aside0.mk ((by rw [hg]; exact (below_size (by repeat (first | (with_reducible first | exact HB.out | apply below_alloc | apply pw_below_drewN | apply below_drew1) | exact HB.out))) : w.heap.size ≤ gb101)); clear HB; have HB := n0_; have BK101 := n1_; have GW101 := n2_; have GE101 := n3_; clear n0_ n1_ n2_ n3_; clear hb hbox hg; have hcz2_0 : w1.cell? ⟨gb101, 0, none⟩ = some (.int .i64 0) := (blk_cell BK101.out 0).trans rfl; have hcz2_1 : w1.cell? ⟨gb101, 1, none⟩ = some (.int .i64 0) := (blk_cell BK101.out 1).trans rfl; have hcz2_2 : w1.cell? ⟨gb101, 2, none⟩ = some (.int .i64 0) := (blk_cell BK101.out 2).trans rfl; have hcz2_3 : w1.cell? ⟨gb101, 3, none⟩ = some (.int .i64 0) := (blk_cell BK101.out 3).trans rfl; have hcz2_4 : w1.cell? ⟨gb101, 4, none⟩ = some (.slice none 0 0) := (blk_cell BK101.out 4).trans rfl; have hcz2_5 : w1.cell? ⟨gb101, 5, none⟩ = some (.bool false) := (blk_cell BK101.out 5).trans rfl; have hcz2_6 : w1.cell? ⟨gb101, 6, none⟩ = some (.int .i64 0) := (blk_cell BK101.out 6).trans rfl; have hcz2_7 : w1.cell? ⟨gb101, 7, none⟩ = some (.bool false) := (blk_cell BK101.out 7).trans rfl; have hfz2_0 := blk_frozen BK101.out 0; have hfz2_1 := blk_frozen BK101.out 1; have hfz2_2 := blk_frozen BK101.out 2; have hfz2_3 := blk_frozen BK101.out 3; have hfz2_4 := blk_frozen BK101.out 4; have hfz2_5 := blk_frozen BK101.out 5; have hfz2_6 := blk_frozen BK101.out 6; have hfz2_7 := blk_frozen BK101.out 7))
  refine bodyPost_ret (results_cell_row rfl _ _ gb101 30 #[.int .i64 1, .int .i64 0, .int .i64 0, .int .i64 0, .slice none 0 0, .bool false, .int .i64 0, .bool false] (0, 0) _ rfl (by (with_reducible repeat (first | refine blk_drewN ?_ _ | refine blk_drew ?_ | refine blk_alloc ?_ _)); refine blk_put (cs := #[.int .i64 1, .int .i64 0, .int .i64 0, .int .i64 0, .slice none 0 0, .bool false, .int .i64 0, .bool false]) ?_ 7 _ rfl; (with_reducible repeat (first | refine blk_drewN ?_ _ | refine blk_drew ?_ | refine blk_alloc ?_ _)); refine blk_put (cs := #[.int .i64 1, .int .i64 0, .int .i64 0, .int .i64 0, .slice none 0 0, .bool false, .int .i64 0, .bool false]) ?_ 6 _ rfl; (with_reducible repeat (first | refine blk_drewN ?_ _ | refine blk_drew ?_ | refine blk_alloc ?_ _)); refine blk_put (cs := #[.int .i64 1, .int .i64 0, .int .i64 0, .int .i64 0, .slice none 0 0, .bool false, .int .i64 0, .bool false]) ?_ 5 _ rfl; (with_reducible repeat (first | refine blk_drewN ?_ _ | refine blk_drew ?_ | refine blk_alloc ?_ _)); refine blk_put (cs := #[.int .i64 1, .int .i64 0, .int .i64 0, .int .i64 0, .slice none 0 0, .bool false, .int .i64 0, .bool false]) ?_ 4 _ rfl; (with_reducible repeat (first | refine blk_drewN ?_ _ | refine blk_drew ?_ | refine blk_alloc ?_ _)); refine blk_put (cs := #[.int .i64 1, .int .i64 0, .int .i64 0, .int .i64 0, .slice none 0 0, .bool false, .int .i64 0, .bool false]) ?_ 3 _ rfl; (with_reducible repeat (first | refine blk_drewN ?_ _ | refine blk_drew ?_ | refine blk_alloc ?_ _)); refine blk_put (cs := #[.int .i64 1, .int .i64 0, .int .i64 0, .int .i64 0, .slice none 0 0, .bool false, .int .i64 0, .bool false]) ?_ 2 _ rfl; (with_reducible repeat (first | refine blk_drewN ?_ _ | refine blk_drew ?_ | refine blk_alloc ?_ _)); refine blk_put (cs := #[.int .i64 1, .int .i64 0, .int .i64 0, .int .i64 0, .slice none 0 0, .bool false, .int .i64 0, .bool false]) ?_ 1 _ rfl; (with_reducible repeat (first | refine blk_drewN ?_ _ | refine blk_drew ?_ | refine blk_alloc ?_ _)); refine blk_put (cs := #[.int .i64 0, .int .i64 0, .int .i64 0, .int .i64 0, .slice none 0 0, .bool false, .int .i64 0, .bool false]) ?_ 0 _ rfl; (with_reducible repeat (first | refine blk_drewN ?_ _ | refine blk_drew ?_ | refine blk_alloc ?_ _)); exact BK101.out) Try.underlying30 rfl (by kernel_rfl)) rfl ?_
  exact ⟨_, by first | rfl | (simp [errW_none, errW_some] <;> rfl) | (simp [*, errW_none, errW_some] <;> rfl), by first | exact Kd.R_nil _ _ _ _ _ | exact Kd.N_nil _ _ _ _ _ | exact Kd.V_nil _ _ _ _ _ | exact Kd.Q_nil _ _ _ _ _ | exact Kd.S_nil _ _ _ _ _, by repeat (first | (with_reducible first | exact HB.out | apply below_alloc | apply pw_below_drewN | apply below_drew1 | refine below_set ?_ GE101.out) | exact HB.out)⟩

/-! ### service_State: function 19 -/
mutual
def service_State.j0 : Nat → Int → Bool → Option (Int)
  | 0, _, _ => none
  | k + 1, x4, x7 => if x7 = true then (some 2) else (if x4 = 4 then (service_State.j1 k x4 (x4 == 4)) else (service_State.j1 k x4 (x4 == 5)))
def service_State.j1 : Nat → Int → Bool → Option (Int)
  | 0, _, _ => none
  | k + 1, x4, x11 => if x11 = true then (some 3) else (if x4 = 6 then (service_State.j2 k x4 (x4 == 6)) else (if x4 = 7 then (service_State.j2 k x4 (x4 == 7)) else (service_State.j2 k x4 (x4 == 8))))
def service_State.j2 : Nat → Int → Bool → Option (Int)
  | 0, _, _ => none
  | k + 1, x4, x14 => if x14 = true then (some 4) else (if x4 = 9 then (some 5) else (some 0))
end
def service_State.f (k : Nat) (a0_0 : Int) (a0_1 : Int) (a0_2 : Int) (a0_3 : Int) (l0_4 : List Int) (a0_5 : Bool) (a0_6 : Int) (a0_7 : Bool) : Option (Int) := if a0_0 = 1 then (some 1) else (if a0_0 = 2 then (service_State.j0 k a0_0 (a0_0 == 2)) else (if a0_0 = 3 then (service_State.j0 k a0_0 (a0_0 == 3)) else (service_State.j0 k a0_0 (a0_0 == 10))))
theorem service_State.mono_l : ∀ k, (∀ y0 y1, LeO (service_State.j0 k y0 y1) (service_State.j0 (k + 1) y0 y1)) ∧ (∀ y0 y1, LeO (service_State.j1 k y0 y1) (service_State.j1 (k + 1) y0 y1)) ∧ (∀ y0 y1, LeO (service_State.j2 k y0 y1) (service_State.j2 (k + 1) y0 y1))
  | 0 => ⟨fun _ _ r h => by simp [service_State.j0] at h, fun _ _ r h => by simp [service_State.j1] at h, fun _ _ r h => by simp [service_State.j2] at h⟩
  | k + 1 => by
    obtain ⟨ih0, ih1, ih2⟩ := service_State.mono_l k
    refine ⟨?_, ?_, ?_⟩
    · intro y0 y1
      unfold service_State.j0
      repeat' first
      | (with_reducible exact ih0 _ _)
      | (with_reducible exact ih1 _ _)
      | (with_reducible exact ih2 _ _)
      | (with_reducible exact LeO.refl _)
      | (with_reducible exact LeO.none _)
      | (with_reducible refine LeO.ite ?_ ?_)
      | (with_reducible refine LeO.bind ?_ (fun _ => ?_))
      | exact ih0 _ _
      | exact ih1 _ _
      | exact ih2 _ _
      | exact LeO.none _
      | refine LeO.ite ?_ ?_
      | refine LeO.bind ?_ (fun _ => ?_)
    · intro y0 y1
      unfold service_State.j1
      repeat' first
      | (with_reducible exact ih0 _ _)
      | (with_reducible exact ih1 _ _)
      | (with_reducible exact ih2 _ _)
      | (with_reducible exact LeO.refl _)
      | (with_reducible exact LeO.none _)
      | (with_reducible refine LeO.ite ?_ ?_)
      | (with_reducible refine LeO.bind ?_ (fun _ => ?_))
      | exact ih0 _ _
      | exact ih1 _ _
      | exact ih2 _ _
      | exact LeO.none _
      | refine LeO.ite ?_ ?_
      | refine LeO.bind ?_ (fun _ => ?_)
    · intro y0 y1
      unfold service_State.j2
      repeat' first
      | (with_reducible exact ih0 _ _)
      | (with_reducible exact ih1 _ _)
      | (with_reducible exact ih2 _ _)
      | (with_reducible exact LeO.refl _)
      | (with_reducible exact LeO.none _)
      | (with_reducible refine LeO.ite ?_ ?_)
      | (with_reducible refine LeO.bind ?_ (fun _ => ?_))
      | exact ih0 _ _
      | exact ih1 _ _
      | exact ih2 _ _
      | exact LeO.none _
      | refine LeO.ite ?_ ?_
      | refine LeO.bind ?_ (fun _ => ?_)
theorem service_State.mono : ∀ a0 a1 a2 a3 a4 a5 a6 a7 k, LeO (service_State.f k a0 a1 a2 a3 a4 a5 a6 a7) (service_State.f (k + 1) a0 a1 a2 a3 a4 a5 a6 a7) := by
  intro a0 a1 a2 a3 a4 a5 a6 a7 k
  obtain ⟨ih0, ih1, ih2⟩ := service_State.mono_l k
  unfold service_State.f
  repeat' first
      | (with_reducible exact ih0 _ _)
      | (with_reducible exact ih1 _ _)
      | (with_reducible exact ih2 _ _)
      | (with_reducible exact LeO.refl _)
      | (with_reducible exact LeO.none _)
      | (with_reducible refine LeO.ite ?_ ?_)
      | (with_reducible refine LeO.bind ?_ (fun _ => ?_))
      | exact ih0 _ _
      | exact ih1 _ _
      | exact ih2 _ _
      | exact LeO.none _
      | refine LeO.ite ?_ ?_
      | refine LeO.bind ?_ (fun _ => ?_)
set_option maxHeartbeats 8000000 in
set_option maxRecDepth 100000 in
theorem service_State.calls (k : Nat) (a0_0 : Int) (a0_1 : Int) (a0_2 : Int) (a0_3 : Int) (A0_4 : Option Addr) (c0_4 : Nat) (l0_4 : List Int) (a0_5 : Bool) (a0_6 : Int) (a0_7 : Bool) (r : Int) (w : World) (hr0_4 : Kd.C (Kd.int .i64) w A0_4 l0_4.length l0_4) (hc0_4 : l0_4.length ≤ c0_4) (h : service_State.f k a0_0 a0_1 a0_2 a0_3 l0_4 a0_5 a0_6 a0_7 = some r) :
    Calls Try.prog 19 #[.agg #[.int .i64 a0_0, .int .i64 a0_1, .int .i64 a0_2, .int .i64 a0_3, .slice A0_4 l0_4.length c0_4, .bool a0_5, .int .i64 a0_6, .bool a0_7]] w fun e w' => e = .returned (.int .i64 r) ∧ Below w.heap.size w w' := by
  have hu30 := Try.underlying30
  have HR0_4 := Aside0.mk hr0_4
  have HC0_4 := Aside0.mk hc0_4
  clear hr0_4 hc0_4
  have HB := Aside0.mk (Below.refl w.heap.size w)
  have H : (if a0_0 = 1 then (some 1) else (if a0_0 = 2 then (service_State.j0 k a0_0 (a0_0 == 2)) else (if a0_0 = 3 then (service_State.j0 k a0_0 (a0_0 == 3)) else (service_State.j0 k a0_0 (a0_0 == 10))))) = some r := h
  clear h
  by_cases c2 : a0_0 = 1
  · rw [if_pos c2] at H
    have c2b0 : (a0_0 == 1) = true := beq_iff_eq.mpr c2
    have c2b1 : (a0_0 != 1) = false := bne_eq_false_iff_eq.mpr c2
    clear c2
    obtain rfl := Option.some.inj H
    go_enter Try.func19, Try.ntmps19
    go_wp2_with (first | ((with_reducible refine gate_dst (N := 1) rfl ?_); refine box_event ?hg (N := 1) ?hd (cs := #[.int .i64 a0_0, .int .i64 a0_1, .int .i64 a0_2, .int .i64 a0_3, .slice A0_4 l0_4.length c0_4, .bool a0_5, .int .i64 a0_6, .bool a0_7]) (t := 30) ?hr ?_; (case hd => rfl); (case hg => rfl); (case hr => first | (go_simp; done) | (go_simp; rfl)); intro gb257 hg w3 hbox hb; have n0_ := Aside0.mk (below_step (by repeat (first | (with_reducible first | exact HB.out | apply below_alloc | apply pw_below_drewN | apply below_drew1) | exact HB.out)) hb); have n1_ := Aside0.mk (hbox); have n2_ := Aside0.mk ((by rw [hg]; exact (below_size (by repeat (first | (with_reducible first | exact HB.out | apply below_alloc | apply pw_below_drewN | apply below_drew1) | exact HB.out))) : w.heap.size ≤ gb257)); have n3_ := Aside0.mk ((by rw [hg]; exact (below_size (by repeat (first | (with_reducible first | exact HB.out | apply below_alloc | apply pw_below_drewN | apply below_drew1) | exact HB.out))) : w.heap.size ≤ gb257)); clear HB; have HB := n0_; have BK257 := n1_; have GW257 := n2_; have GE257 := n3_; clear n0_ n1_ n2_ n3_; clear hb hbox hg; have hcz4_0 : w3.cell? ⟨gb257, 0, none⟩ = some (.int .i64 a0_0) := (blk_cell BK257.out 0).trans rfl; have hcz4_1 : w3.cell? ⟨gb257, 1, none⟩ = some (.int .i64 a0_1) := (blk_cell BK257.out 1).trans rfl; have hcz4_2 : w3.cell? ⟨gb257, 2, none⟩ = some (.int .i64 a0_2) := (blk_cell BK257.out 2).trans rfl; have hcz4_3 : w3.cell? ⟨gb257, 3, none⟩ = some (.int .i64 a0_3) := (blk_cell BK257.out 3).trans rfl; have hcz4_4 : w3.cell? ⟨gb257, 4, none⟩ = some (.slice A0_4 l0_4.length c0_4) := (blk_cell BK257.out 4).trans rfl; have hcz4_5 : w3.cell? ⟨gb257, 5, none⟩ = some (.bool a0_5) := (blk_cell BK257.out 5).trans rfl; have hcz4_6 : w3.cell? ⟨gb257, 6, none⟩ = some (.int .i64 a0_6) := (blk_cell BK257.out 6).trans rfl; have hcz4_7 : w3.cell? ⟨gb257, 7, none⟩ = some (.bool a0_7) := (blk_cell BK257.out 7).trans rfl; have hfz4_0 := blk_frozen BK257.out 0; have hfz4_1 := blk_frozen BK257.out 1; have hfz4_2 := blk_frozen BK257.out 2; have hfz4_3 := blk_frozen BK257.out 3; have hfz4_4 := blk_frozen BK257.out 4; have hfz4_5 := blk_frozen BK257.out 5; have hfz4_6 := blk_frozen BK257.out 6; have hfz4_7 := blk_frozen BK257.out 7))
    go_ret
    exact ⟨by first | rfl | (simp [errW_none, errW_some] <;> rfl) | (simp [*, errW_none, errW_some] <;> rfl), by repeat (first | (with_reducible first | exact HB.out | apply below_alloc | apply pw_below_drewN | apply below_drew1 | refine below_set ?_ GE257.out) | exact HB.out)⟩
  · rw [if_neg c2] at H
    have c2b0 : (a0_0 == 1) = false := beq_eq_false_iff_ne.mpr c2
    have c2b1 : (a0_0 != 1) = true := bne_iff_ne.mpr c2
    have HC5 := Aside0.mk H
    clear H
    go_enter Try.func19, Try.ntmps19
    go_upto_if 7 with (first | ((with_reducible refine gate_dst (N := 1) rfl ?_); refine box_event ?hg (N := 1) ?hd (cs := #[.int .i64 a0_0, .int .i64 a0_1, .int .i64 a0_2, .int .i64 a0_3, .slice A0_4 l0_4.length c0_4, .bool a0_5, .int .i64 a0_6, .bool a0_7]) (t := 30) ?hr ?_; (case hd => rfl); (case hg => rfl); (case hr => first | (go_simp; done) | (go_simp; rfl)); intro gb257 hg w6 hbox hb; have n0_ := Aside0.mk (below_step (by repeat (first | (with_reducible first | exact HB.out | apply below_alloc | apply pw_below_drewN | apply below_drew1) | exact HB.out)) hb); have n1_ := Aside0.mk (hbox); have n2_ := Aside0.mk ((by rw [hg]; exact (below_size (by repeat (first | (with_reducible first | exact HB.out | apply below_alloc | apply pw_below_drewN | apply below_drew1) | exact HB.out))) : w.heap.size ≤ gb257)); have n3_ := Aside0.mk ((by rw [hg]; exact (below_size (by repeat (first | (with_reducible first | exact HB.out | apply below_alloc | apply pw_below_drewN | apply below_drew1) | exact HB.out))) : w.heap.size ≤ gb257)); clear HB; have HB := n0_; have BK257 := n1_; have GW257 := n2_; have GE257 := n3_; clear n0_ n1_ n2_ n3_; clear hb hbox hg; have hcz7_0 : w6.cell? ⟨gb257, 0, none⟩ = some (.int .i64 a0_0) := (blk_cell BK257.out 0).trans rfl; have hcz7_1 : w6.cell? ⟨gb257, 1, none⟩ = some (.int .i64 a0_1) := (blk_cell BK257.out 1).trans rfl; have hcz7_2 : w6.cell? ⟨gb257, 2, none⟩ = some (.int .i64 a0_2) := (blk_cell BK257.out 2).trans rfl; have hcz7_3 : w6.cell? ⟨gb257, 3, none⟩ = some (.int .i64 a0_3) := (blk_cell BK257.out 3).trans rfl; have hcz7_4 : w6.cell? ⟨gb257, 4, none⟩ = some (.slice A0_4 l0_4.length c0_4) := (blk_cell BK257.out 4).trans rfl; have hcz7_5 : w6.cell? ⟨gb257, 5, none⟩ = some (.bool a0_5) := (blk_cell BK257.out 5).trans rfl; have hcz7_6 : w6.cell? ⟨gb257, 6, none⟩ = some (.int .i64 a0_6) := (blk_cell BK257.out 6).trans rfl; have hcz7_7 : w6.cell? ⟨gb257, 7, none⟩ = some (.bool a0_7) := (blk_cell BK257.out 7).trans rfl; have hfz7_0 := blk_frozen BK257.out 0; have hfz7_1 := blk_frozen BK257.out 1; have hfz7_2 := blk_frozen BK257.out 2; have hfz7_3 := blk_frozen BK257.out 3; have hfz7_4 := blk_frozen BK257.out 4; have hfz7_5 := blk_frozen BK257.out 5; have hfz7_6 := blk_frozen BK257.out 6; have hfz7_7 := blk_frozen BK257.out 7))
    (try simp only [Act.put, List.setIfInBounds_toArray, List.set_cons_zero, List.set_cons_succ])
    go_cut [7] (fun v7 wc => ∃ (kq : Nat) (x7_4 : Bool), v7 = .bool x7_4 ∧ Aside0 (service_State.j0 kq a0_0 x7_4 = some r) ∧ Aside0 (kq ≤ k) ∧ Aside0 (wc.heap[gb257]? = some (.cells #[.int .i64 a0_0, .int .i64 a0_1, .int .i64 a0_2, .int .i64 a0_3, (.slice A0_4 l0_4.length c0_4), .bool a0_5, .int .i64 a0_6, .bool a0_7] 30 (0, 0))) ∧ Aside0 (Below w.heap.size w wc))
    case first =>
      have H := HC5.out
      clear HC5
      by_cases c8 : a0_0 = 2
      · rw [if_pos c8] at H
        have c8b0 : (a0_0 == 2) = true := beq_iff_eq.mpr c8
        have c8b1 : (a0_0 != 2) = false := bne_eq_false_iff_eq.mpr c8
        clear c8
        (first | rw [c8b0] | (simp only [i64_w, i32_w]; rw [c8b0]) | skip)
        have H' := Aside0.mk H
        clear H
        go_wp2
        go_meet
        case rel => exact ⟨_, ((a0_0 == 2)), (by first | rfl | (simp; done) | (simp [*]; done)), H', ⟨by first | omega | exact Nat.le_refl _⟩, ⟨by (with_reducible repeat (first | refine blk_drewN ?_ _ | refine blk_drew ?_ | refine blk_alloc ?_ _)); exact BK257.out⟩, ⟨by repeat (first | (with_reducible first | exact HB.out | apply below_alloc | apply pw_below_drewN | apply below_drew1 | refine below_set ?_ GE257.out) | exact HB.out)⟩⟩
      · rw [if_neg c8] at H
        have c8b0 : (a0_0 == 2) = false := beq_eq_false_iff_ne.mpr c8
        have c8b1 : (a0_0 != 2) = true := bne_iff_ne.mpr c8
        (first | rw [c8b0] | (simp only [i64_w, i32_w]; rw [c8b0]) | skip)
        by_cases c9 : a0_0 = 3
        · rw [if_pos c9] at H
          have c9b0 : (a0_0 == 3) = true := beq_iff_eq.mpr c9
          have c9b1 : (a0_0 != 3) = false := bne_eq_false_iff_eq.mpr c9
          clear c9
          have H' := Aside0.mk H
          clear H
          go_wp2
          go_meet
          case rel => exact ⟨_, ((a0_0 == 3)), (by first | rfl | (simp; done) | (simp [*]; done)), H', ⟨by first | omega | exact Nat.le_refl _⟩, ⟨by (with_reducible repeat (first | refine blk_drewN ?_ _ | refine blk_drew ?_ | refine blk_alloc ?_ _)); exact BK257.out⟩, ⟨by repeat (first | (with_reducible first | exact HB.out | apply below_alloc | apply pw_below_drewN | apply below_drew1 | refine below_set ?_ GE257.out) | exact HB.out)⟩⟩
        · rw [if_neg c9] at H
          have c9b0 : (a0_0 == 3) = false := beq_eq_false_iff_ne.mpr c9
          have c9b1 : (a0_0 != 3) = true := bne_iff_ne.mpr c9
          have H' := Aside0.mk H
          clear H
          go_wp2
          go_meet
          case rel => exact ⟨_, ((a0_0 == 10)), (by first | rfl | (simp; done) | (simp [*]; done)), H', ⟨by first | omega | exact Nat.le_refl _⟩, ⟨by (with_reducible repeat (first | refine blk_drewN ?_ _ | refine blk_drew ?_ | refine blk_alloc ?_ _)); exact BK257.out⟩, ⟨by repeat (first | (with_reducible first | exact HB.out | apply below_alloc | apply pw_below_drewN | apply below_drew1 | refine below_set ?_ GE257.out) | exact HB.out)⟩⟩
    case rest =>
      clear HC5
      try clear c1
      try clear c2
      try clear c2b0
      try clear c2b1
      try clear p2
      try clear c8
      try clear c8b0
      try clear c8b1
      try clear c9
      try clear c9b0
      try clear c9b1
      try clear hcz4_0
      try clear hcz4_1
      try clear hcz4_2
      try clear hcz4_3
      try clear hcz4_4
      try clear hcz4_5
      try clear hcz4_6
      try clear hcz4_7
      try clear hcz7_0
      try clear hcz7_1
      try clear hcz7_2
      try clear hcz7_3
      try clear hcz7_4
      try clear hcz7_5
      try clear hcz7_6
      try clear hcz7_7
      try clear hfz4_0
      try clear hfz4_1
      try clear hfz4_2
      try clear hfz4_3
      try clear hfz4_4
      try clear hfz4_5
      try clear hfz4_6
      try clear hfz4_7
      try clear hfz7_0
      try clear hfz7_1
      try clear hfz7_2
      try clear hfz7_3
      try clear hfz7_4
      try clear hfz7_5
      try clear hfz7_6
      try clear hfz7_7
      obtain ⟨kq, x7_4, rfl, HA, HJ4, BK257, HB⟩ := hcut
      cases kq with
      | zero => exact absurd HA.out (by simp [service_State.j0])
      | succ kj4 =>
        have H := HA.out
        clear HA
        simp only [service_State.j0] at H
        by_cases c10 : x7_4 = true
        · subst c10
          have H1 : (some 2) = some r := by rw [if_pos rfl] at H; exact H
          clear H
          have H := H1
          clear H1
          obtain rfl := Option.some.inj H
          go_wp2
          go_ret
          exact ⟨by first | rfl | (simp [errW_none, errW_some] <;> rfl) | (simp [*, errW_none, errW_some] <;> rfl), by repeat (first | (with_reducible first | exact HB.out | apply below_alloc | apply pw_below_drewN | apply below_drew1 | refine below_set ?_ GE257.out) | exact HB.out)⟩
        · replace c10 := Bool.eq_false_iff.mpr c10
          subst c10
          have H1 : (if a0_0 = 4 then (service_State.j1 kj4 a0_0 (a0_0 == 4)) else (service_State.j1 kj4 a0_0 (a0_0 == 5))) = some r := by rw [if_neg (show ¬ (false = true) by decide)] at H; exact H
          clear H
          have H := H1
          clear H1
          have HC11 := Aside0.mk H
          clear H
          go_upto_if 11 with (fail)
          go_cut [11] (fun v11 wc => ∃ (kq : Nat) (x11_10 : Bool), v11 = .bool x11_10 ∧ Aside0 (service_State.j1 kq a0_0 x11_10 = some r) ∧ Aside0 (kq ≤ kj4) ∧ Aside0 (wc.heap[gb257]? = some (.cells #[.int .i64 a0_0, .int .i64 a0_1, .int .i64 a0_2, .int .i64 a0_3, (.slice A0_4 l0_4.length c0_4), .bool a0_5, .int .i64 a0_6, .bool a0_7] 30 (0, 0))) ∧ Aside0 (Below w.heap.size w wc))
          case first =>
            have H := HC11.out
            clear HC11
            by_cases c12 : a0_0 = 4
            · rw [if_pos c12] at H
              have c12b0 : (a0_0 == 4) = true := beq_iff_eq.mpr c12
              have c12b1 : (a0_0 != 4) = false := bne_eq_false_iff_eq.mpr c12
              clear c12
              (first | rw [c12b0] | (simp only [i64_w, i32_w]; rw [c12b0]) | skip)
              have H' := Aside0.mk H
              clear H
              go_wp2
              go_meet
              case rel => exact ⟨_, ((a0_0 == 4)), (by first | rfl | (simp; done) | (simp [*]; done)), H', ⟨by have := HJ4.out; first | omega | exact Nat.le_refl _⟩, ⟨by (with_reducible repeat (first | refine blk_drewN ?_ _ | refine blk_drew ?_ | refine blk_alloc ?_ _)); exact BK257.out⟩, ⟨by repeat (first | (with_reducible first | exact HB.out | apply below_alloc | apply pw_below_drewN | apply below_drew1 | refine below_set ?_ GE257.out) | exact HB.out)⟩⟩
            · rw [if_neg c12] at H
              have c12b0 : (a0_0 == 4) = false := beq_eq_false_iff_ne.mpr c12
              have c12b1 : (a0_0 != 4) = true := bne_iff_ne.mpr c12
              (first | rw [c12b0] | (simp only [i64_w, i32_w]; rw [c12b0]) | skip)
              have H' := Aside0.mk H
              clear H
              go_wp2
              go_meet
              case rel => exact ⟨_, ((a0_0 == 5)), (by first | rfl | (simp; done) | (simp [*]; done)), H', ⟨by have := HJ4.out; first | omega | exact Nat.le_refl _⟩, ⟨by (with_reducible repeat (first | refine blk_drewN ?_ _ | refine blk_drew ?_ | refine blk_alloc ?_ _)); exact BK257.out⟩, ⟨by repeat (first | (with_reducible first | exact HB.out | apply below_alloc | apply pw_below_drewN | apply below_drew1 | refine below_set ?_ GE257.out) | exact HB.out)⟩⟩
          case rest =>
            clear HC11
            try clear c1
            try clear c2
            try clear c2b0
            try clear c2b1
            try clear p2
            try clear c8
            try clear c8b0
            try clear c8b1
            try clear c9
            try clear c9b0
            try clear c9b1
            try clear c10
            try clear c12
            try clear c12b0
            try clear c12b1
            try clear hcz4_0
            try clear hcz4_1
            try clear hcz4_2
            try clear hcz4_3
            try clear hcz4_4
            try clear hcz4_5
            try clear hcz4_6
            try clear hcz4_7
            try clear hcz7_0
            try clear hcz7_1
            try clear hcz7_2
            try clear hcz7_3
            try clear hcz7_4
            try clear hcz7_5
            try clear hcz7_6
            try clear hcz7_7
            try clear hfz4_0
            try clear hfz4_1
            try clear hfz4_2
            try clear hfz4_3
            try clear hfz4_4
            try clear hfz4_5
            try clear hfz4_6
            try clear hfz4_7
            try clear hfz7_0
            try clear hfz7_1
            try clear hfz7_2
            try clear hfz7_3
            try clear hfz7_4
            try clear hfz7_5
            try clear hfz7_6
            try clear hfz7_7
            try clear p2
            obtain ⟨kq, x11_10, rfl, HA, HJ10, BK257, HB⟩ := hcut
            cases kq with
            | zero => exact absurd HA.out (by simp [service_State.j1])
            | succ kj10 =>
              have H := HA.out
              clear HA
              simp only [service_State.j1] at H
              by_cases c13 : x11_10 = true
              · subst c13
                have H1 : (some 3) = some r := by rw [if_pos rfl] at H; exact H
                clear H
                have H := H1
                clear H1
                obtain rfl := Option.some.inj H
                go_wp2
                go_ret
                exact ⟨by first | rfl | (simp [errW_none, errW_some] <;> rfl) | (simp [*, errW_none, errW_some] <;> rfl), by repeat (first | (with_reducible first | exact HB.out | apply below_alloc | apply pw_below_drewN | apply below_drew1 | refine below_set ?_ GE257.out) | exact HB.out)⟩
              · replace c13 := Bool.eq_false_iff.mpr c13
                subst c13
                have H1 : (if a0_0 = 6 then (service_State.j2 kj10 a0_0 (a0_0 == 6)) else (if a0_0 = 7 then (service_State.j2 kj10 a0_0 (a0_0 == 7)) else (service_State.j2 kj10 a0_0 (a0_0 == 8)))) = some r := by rw [if_neg (show ¬ (false = true) by decide)] at H; exact H
                clear H
                have H := H1
                clear H1
                have HC14 := Aside0.mk H
                clear H
                go_upto_if 14 with (fail)
                go_cut [14] (fun v14 wc => ∃ (kq : Nat) (x14_13 : Bool), v14 = .bool x14_13 ∧ Aside0 (service_State.j2 kq a0_0 x14_13 = some r) ∧ Aside0 (kq ≤ kj10) ∧ Aside0 (wc.heap[gb257]? = some (.cells #[.int .i64 a0_0, .int .i64 a0_1, .int .i64 a0_2, .int .i64 a0_3, (.slice A0_4 l0_4.length c0_4), .bool a0_5, .int .i64 a0_6, .bool a0_7] 30 (0, 0))) ∧ Aside0 (Below w.heap.size w wc))
                case first =>
                  have H := HC14.out
                  clear HC14
                  by_cases c15 : a0_0 = 6
                  · rw [if_pos c15] at H
                    have c15b0 : (a0_0 == 6) = true := beq_iff_eq.mpr c15
                    have c15b1 : (a0_0 != 6) = false := bne_eq_false_iff_eq.mpr c15
                    clear c15
                    (first | rw [c15b0] | (simp only [i64_w, i32_w]; rw [c15b0]) | skip)
                    have H' := Aside0.mk H
                    clear H
                    go_wp2
                    go_meet
                    case rel => exact ⟨_, ((a0_0 == 6)), (by first | rfl | (simp; done) | (simp [*]; done)), H', ⟨by have := HJ4.out; have := HJ10.out; first | omega | exact Nat.le_refl _⟩, ⟨by (with_reducible repeat (first | refine blk_drewN ?_ _ | refine blk_drew ?_ | refine blk_alloc ?_ _)); exact BK257.out⟩, ⟨by repeat (first | (with_reducible first | exact HB.out | apply below_alloc | apply pw_below_drewN | apply below_drew1 | refine below_set ?_ GE257.out) | exact HB.out)⟩⟩
                  · rw [if_neg c15] at H
                    have c15b0 : (a0_0 == 6) = false := beq_eq_false_iff_ne.mpr c15
                    have c15b1 : (a0_0 != 6) = true := bne_iff_ne.mpr c15
                    (first | rw [c15b0] | (simp only [i64_w, i32_w]; rw [c15b0]) | skip)
                    by_cases c16 : a0_0 = 7
                    · rw [if_pos c16] at H
                      have c16b0 : (a0_0 == 7) = true := beq_iff_eq.mpr c16
                      have c16b1 : (a0_0 != 7) = false := bne_eq_false_iff_eq.mpr c16
                      clear c16
                      have H' := Aside0.mk H
                      clear H
                      go_wp2
                      go_meet
                      case rel => exact ⟨_, ((a0_0 == 7)), (by first | rfl | (simp; done) | (simp [*]; done)), H', ⟨by have := HJ4.out; have := HJ10.out; first | omega | exact Nat.le_refl _⟩, ⟨by (with_reducible repeat (first | refine blk_drewN ?_ _ | refine blk_drew ?_ | refine blk_alloc ?_ _)); exact BK257.out⟩, ⟨by repeat (first | (with_reducible first | exact HB.out | apply below_alloc | apply pw_below_drewN | apply below_drew1 | refine below_set ?_ GE257.out) | exact HB.out)⟩⟩
                    · rw [if_neg c16] at H
                      have c16b0 : (a0_0 == 7) = false := beq_eq_false_iff_ne.mpr c16
                      have c16b1 : (a0_0 != 7) = true := bne_iff_ne.mpr c16
                      have H' := Aside0.mk H
                      clear H
                      go_wp2
                      go_meet
                      case rel => exact ⟨_, ((a0_0 == 8)), (by first | rfl | (simp; done) | (simp [*]; done)), H', ⟨by have := HJ4.out; have := HJ10.out; first | omega | exact Nat.le_refl _⟩, ⟨by (with_reducible repeat (first | refine blk_drewN ?_ _ | refine blk_drew ?_ | refine blk_alloc ?_ _)); exact BK257.out⟩, ⟨by repeat (first | (with_reducible first | exact HB.out | apply below_alloc | apply pw_below_drewN | apply below_drew1 | refine below_set ?_ GE257.out) | exact HB.out)⟩⟩
                case rest =>
                  clear HC14
                  try clear c1
                  try clear c2
                  try clear c2b0
                  try clear c2b1
                  try clear p2
                  try clear c8
                  try clear c8b0
                  try clear c8b1
                  try clear c9
                  try clear c9b0
                  try clear c9b1
                  try clear c10
                  try clear c12
                  try clear c12b0
                  try clear c12b1
                  try clear c13
                  try clear c15
                  try clear c15b0
                  try clear c15b1
                  try clear c16
                  try clear c16b0
                  try clear c16b1
                  try clear hcz4_0
                  try clear hcz4_1
                  try clear hcz4_2
                  try clear hcz4_3
                  try clear hcz4_4
                  try clear hcz4_5
                  try clear hcz4_6
                  try clear hcz4_7
                  try clear hcz7_0
                  try clear hcz7_1
                  try clear hcz7_2
                  try clear hcz7_3
                  try clear hcz7_4
                  try clear hcz7_5
                  try clear hcz7_6
                  try clear hcz7_7
                  try clear hfz4_0
                  try clear hfz4_1
                  try clear hfz4_2
                  try clear hfz4_3
                  try clear hfz4_4
                  try clear hfz4_5
                  try clear hfz4_6
                  try clear hfz4_7
                  try clear hfz7_0
                  try clear hfz7_1
                  try clear hfz7_2
                  try clear hfz7_3
                  try clear hfz7_4
                  try clear hfz7_5
                  try clear hfz7_6
                  try clear hfz7_7
                  try clear p2
                  obtain ⟨kq, x14_13, rfl, HA, HJ13, BK257, HB⟩ := hcut
                  cases kq with
                  | zero => exact absurd HA.out (by simp [service_State.j2])
                  | succ kj13 =>
                    have H := HA.out
                    clear HA
                    simp only [service_State.j2] at H
                    by_cases c17 : x14_13 = true
                    · subst c17
                      have H1 : (some 4) = some r := by rw [if_pos rfl] at H; exact H
                      clear H
                      have H := H1
                      clear H1
                      obtain rfl := Option.some.inj H
                      go_wp2
                      go_ret
                      exact ⟨by first | rfl | (simp [errW_none, errW_some] <;> rfl) | (simp [*, errW_none, errW_some] <;> rfl), by repeat (first | (with_reducible first | exact HB.out | apply below_alloc | apply pw_below_drewN | apply below_drew1 | refine below_set ?_ GE257.out) | exact HB.out)⟩
                    · replace c17 := Bool.eq_false_iff.mpr c17
                      subst c17
                      have H1 : (if a0_0 = 9 then (some 5) else (some 0)) = some r := by rw [if_neg (show ¬ (false = true) by decide)] at H; exact H
                      clear H
                      have H := H1
                      clear H1
                      by_cases c18 : a0_0 = 9
                      · rw [if_pos c18] at H
                        have c18b0 : (a0_0 == 9) = true := beq_iff_eq.mpr c18
                        have c18b1 : (a0_0 != 9) = false := bne_eq_false_iff_eq.mpr c18
                        clear c18
                        obtain rfl := Option.some.inj H
                        go_wp2
                        go_ret
                        exact ⟨by first | rfl | (simp [errW_none, errW_some] <;> rfl) | (simp [*, errW_none, errW_some] <;> rfl), by repeat (first | (with_reducible first | exact HB.out | apply below_alloc | apply pw_below_drewN | apply below_drew1 | refine below_set ?_ GE257.out) | exact HB.out)⟩
                      · rw [if_neg c18] at H
                        have c18b0 : (a0_0 == 9) = false := beq_eq_false_iff_ne.mpr c18
                        have c18b1 : (a0_0 != 9) = true := bne_iff_ne.mpr c18
                        obtain rfl := Option.some.inj H
                        go_wp2
                        go_ret
                        exact ⟨by first | rfl | (simp [errW_none, errW_some] <;> rfl) | (simp [*, errW_none, errW_some] <;> rfl), by repeat (first | (with_reducible first | exact HB.out | apply below_alloc | apply pw_below_drewN | apply below_drew1 | refine below_set ?_ GE257.out) | exact HB.out)⟩

/-! ### reveillehelp_Short: function 38 -/
def reveillehelp_Short.l0 : Nat → List ByteArray → Int → Int → Int → Option (Bool)
  | 0, _, _, _, _ => none
  | k + 1, x0, x1, x2, x7 => if x7 < (x0.length : Int) then (if 0 ≤ x7 then (if ((rdOf ByteArray.empty x0 x7).size : Int) > x2 then (some false) else (reveillehelp_Short.l0 k x0 x1 x2 (wrap64 (x7 + 1)))) else (none)) else (some (decide ((x0.length : Int) ≤ x1)))
def reveillehelp_Short.f (k : Nat) (l0 : List ByteArray) (a1 : Int) (a2 : Int) : Option (Bool) := reveillehelp_Short.l0 k l0 a1 a2 0
theorem reveillehelp_Short.mono_l : ∀ k, (∀ y0 y1 y2 y3, LeO (reveillehelp_Short.l0 k y0 y1 y2 y3) (reveillehelp_Short.l0 (k + 1) y0 y1 y2 y3))
  | 0 => fun _ _ _ _ r h => by simp [reveillehelp_Short.l0] at h
  | k + 1 => by
    have ih0 := reveillehelp_Short.mono_l k
    · intro y0 y1 y2 y3
      unfold reveillehelp_Short.l0
      repeat' first
      | (with_reducible exact ih0 _ _ _ _)
      | (with_reducible exact LeO.refl _)
      | (with_reducible exact LeO.none _)
      | (with_reducible refine LeO.ite ?_ ?_)
      | (with_reducible refine LeO.bind ?_ (fun _ => ?_))
      | exact ih0 _ _ _ _
      | exact LeO.none _
      | refine LeO.ite ?_ ?_
      | refine LeO.bind ?_ (fun _ => ?_)
theorem reveillehelp_Short.mono : ∀ a0 a1 a2 k, LeO (reveillehelp_Short.f k a0 a1 a2) (reveillehelp_Short.f (k + 1) a0 a1 a2) := by
  intro a0 a1 a2 k
  have ih0 := reveillehelp_Short.mono_l k
  unfold reveillehelp_Short.f
  repeat' first
      | (with_reducible exact ih0 _ _ _ _)
      | (with_reducible exact LeO.refl _)
      | (with_reducible exact LeO.none _)
      | (with_reducible refine LeO.ite ?_ ?_)
      | (with_reducible refine LeO.bind ?_ (fun _ => ?_))
      | exact ih0 _ _ _ _
      | exact LeO.none _
      | refine LeO.ite ?_ ?_
      | refine LeO.bind ?_ (fun _ => ?_)
set_option maxHeartbeats 8000000 in
set_option maxRecDepth 100000 in
theorem reveillehelp_Short.calls (k : Nat) (A0 : Option Addr) (c0 : Nat) (l0 : List ByteArray) (a1 : Int) (a2 : Int) (r : Bool) (w : World) (hr0 : Kd.C Kd.string w A0 l0.length l0) (hc0 : l0.length ≤ c0) (h : reveillehelp_Short.f k l0 a1 a2 = some r) :
    Calls Try.prog 38 #[.slice A0 l0.length c0, .int .i64 a1, .int .i64 a2] w fun e w' => e = .returned (.bool r) ∧ Drawn0 w w' := by
  have HR0 := Aside0.mk hr0
  have HC0 := Aside0.mk hc0
  clear hr0 hc0
  have H : (reveillehelp_Short.l0 k l0 a1 a2 0) = some r := h
  clear h
  have H' := Aside0.mk H
  clear H
  go_enter Try.func38, Try.ntmps38
  go_wp2
  go_loopg [7] k (fun kq v7 w' => ∃ (x7_1 : Int), v7 = .int .i64 x7_1 ∧ Aside0 (reveillehelp_Short.l0 kq l0 a1 a2 x7_1 = some r) ∧ Aside0 (kq ≤ k) ∧ Drawn0 w w')
  case atStart => exact ⟨(0), (by first | rfl | (simp; done) | (simp [*]; done)), H', ⟨Nat.le_refl _⟩, by repeat (first | exact Drawn0.refl _ | apply Drawn0.step)⟩
  case round =>
    clear H'
    try clear p2
    try clear c3
    obtain ⟨x7_1, rfl, HA, HK1, ⟨m1, rfl⟩⟩ := hrel
    cases gk with
    | zero => exact absurd HA.out (by simp [reveillehelp_Short.l0])
    | succ k1 =>
      have H := HA.out
      clear HA
      simp only [reveillehelp_Short.l0] at H
      by_cases c4 : x7_1 < (l0.length : Int)
      · rw [if_pos c4] at H
        have c4b0 : decide (x7_1 < (l0.length : Int)) = true := decide_eq_true c4
        clear c4
        by_cases c5 : 0 ≤ x7_1
        · rw [if_pos c5] at H
          have c5b0 : decide (0 ≤ x7_1) = true := decide_eq_true c5
          clear c5
          by_cases c6 : ((rdOf ByteArray.empty l0 x7_1).size : Int) > a2
          · rw [if_pos c6] at H
            have c6b0 : decide (a2 < ((rdOf ByteArray.empty l0 x7_1).size : Int)) = true := decide_eq_true c6
            clear c6
            obtain rfl := Option.some.inj H
            have p331 : 0 ≤ (x7_1 : Int) := of_decide_eq_true (by first | (with_reducible assumption) | assumption)
            have q331 : x7_1 < (l0.length : Int) := of_decide_eq_true (by first | (with_reducible assumption) | assumption)
            obtain ⟨ad331, e331, hx331_0⟩ := Kd.at_string HR0.out x7_1 p331 q331
            cases e331
            replace p331 := eq_true p331
            replace q331 := eq_true q331
            go_wp2
            go_ret
            exact ⟨by first | rfl | (simp; done) | (simp [*]; done), by repeat (first | exact Drawn0.refl _ | apply Drawn0.step)⟩
          · rw [if_neg c6] at H
            have c6b0 : decide (a2 < ((rdOf ByteArray.empty l0 x7_1).size : Int)) = false := decide_eq_false c6
            clear c6
            have H' := Aside0.mk H
            clear H
            have p331 : 0 ≤ (x7_1 : Int) := of_decide_eq_true (by first | (with_reducible assumption) | assumption)
            have q331 : x7_1 < (l0.length : Int) := of_decide_eq_true (by first | (with_reducible assumption) | assumption)
            obtain ⟨ad331, e331, hx331_0⟩ := Kd.at_string HR0.out x7_1 p331 q331
            cases e331
            replace p331 := eq_true p331
            replace q331 := eq_true q331
            go_wp2
            go_roundg k1
            case measure => have := HK1.out; omega
            case rel => exact ⟨(wrap64 (x7_1 + 1)), (by first | rfl | (simp; done) | (simp [*]; done)), H', ⟨by have := HK1.out; omega⟩, by repeat (first | exact Drawn0.refl _ | apply Drawn0.step)⟩
        · rw [if_neg c5] at H
          exact absurd H (by simp)
      · rw [if_neg c4] at H
        have c4b0 : decide (x7_1 < (l0.length : Int)) = false := decide_eq_false c4
        clear c4
        obtain rfl := Option.some.inj H
        go_wp2
        go_ret
        exact ⟨by first | rfl | (simp; done) | (simp [*]; done), by repeat (first | exact Drawn0.refl _ | apply Drawn0.step)⟩

/-- a row of strings that is read -/
def SL (W : World) (A : Option Addr) (n c : Nat) : Prop := ∃ xs : List ByteArray, n = xs.length ∧ n ≤ c ∧ Kd.C Kd.string W A n xs
theorem SL.below {W W' : World} {A : Option Addr} {n c : Nat} (h : SL W A n c) (hb : Below W.heap.size W W') : SL W' A n c := by
  obtain ⟨xs, h1, h2, h3⟩ := h
  exact ⟨xs, h1, h2, Kd.C_below h3 hb⟩
theorem wrap_len {i n : Nat} (h : i < n) (h2 : n ≤ 9223372036854775807) : wrap64 ((i : Int) + 1) = ((i + 1 : Nat) : Int) := by unfold wrap64; omega
theorem short_total (xs : List ByteArray) (many bytes : Int) (hl : xs.length ≤ 9223372036854775807) : ∀ (m i : Nat), i + m = xs.length → ∃ k r, reveillehelp_Short.l0 k xs many bytes (i : Int) = some r := by
  intro m
  induction m with
  | zero =>
    intro i hi
    refine ⟨1, decide ((xs.length : Int) ≤ many), ?_⟩
    rw [reveillehelp_Short.l0, if_neg (by omega)]
  | succ m ih =>
    intro i hi
    by_cases hc : ((rdOf ByteArray.empty xs (i : Int)).size : Int) > bytes
    · refine ⟨1, false, ?_⟩
      rw [reveillehelp_Short.l0, if_pos (by omega), if_pos (by omega), if_pos hc]
    · obtain ⟨k, r, h⟩ := ih (i + 1) (by omega)
      refine ⟨k + 1, r, ?_⟩
      rw [reveillehelp_Short.l0, if_pos (by omega), if_pos (by omega), if_neg hc, wrap_len (by omega : i < xs.length) hl]
      exact h
theorem short_calls {W : World} {A : Option Addr} {n c : Nat} (h : SL W A n c) (many bytes : Int) :
    Calls Try.prog 38 #[.slice A n c, .int .i64 many, .int .i64 bytes] W fun e w' => ∃ (r : Bool) (m : Nat), e = .returned (.bool r) ∧ w' = W.drewN m := by
  obtain ⟨xs, rfl, h2, h3⟩ := h
  obtain ⟨k, r, hr⟩ := short_total xs many bytes h3.2.1 xs.length 0 (Nat.zero_add _)
  refine (reveillehelp_Short.calls k A c xs many bytes r W h3 h2 hr).mono ?_
  rintro e w' ⟨h4, ⟨m, h5⟩⟩
  exact ⟨r, m, h4, h5⟩
/-- an answer that is a truth -/
def Boolish (e : Ending) : Prop := ∃ r : Bool, e = .returned (.bool r)
theorem boolish (r : Bool) : Boolish (.returned (.bool r)) := ⟨r, rfl⟩
structure Lists (W : World) (e : En) (u : U0) : Prop where
  s3 : SL W u.A3 u.n3 u.c3
  s4 : SL W u.A4 u.n4 u.c4
  s5 : SL W u.A5 u.n5 u.c5
  s6 : SL W u.A6 u.n6 u.c6
  s7 : SL W u.A7 u.n7 u.c7
  s8 : SL W u.A8 u.n8 u.c8
  s9 : SL W u.A9 u.n9 u.c9
  s14 : SL W e.Apre e.pre.length e.cpre
  s15 : SL W e.Asta e.sta.length e.csta
  s16 : SL W e.Asto e.sto.length e.csto
  s28 : SL W u.A28 u.n28 u.c28
  s29 : SL W u.A29 u.n29 u.c29
  s30 : SL W u.A30 u.n30 u.c30
theorem Lists.below {W W' : World} {e : En} {u : U0} (h : Lists W e u) (hb : Below W.heap.size W W') : Lists W' e u :=
  ⟨h.s3.below hb, h.s4.below hb, h.s5.below hb, h.s6.below hb, h.s7.below hb, h.s8.below hb, h.s9.below hb, h.s14.below hb, h.s15.below hb, h.s16.below hb, h.s28.below hb, h.s29.below hb, h.s30.below hb⟩
set_option maxRecDepth 100000
set_option maxHeartbeats 4000000
theorem few1_calls {W : World} {e : En} (u : U0) (hu : e.o = mkO u) (hl : Lists W e u) : Calls Try.prog 29 #[unitV e] W fun e' W' => Boolish e' ∧ Below W.heap.size W W' := by
  have hUV : unitV e = .agg #[.string u.name, .int .i64 u.kind, .int .i64 u.load, .slice u.A3 u.n3 u.c3, .slice u.A4 u.n4 u.c4, .slice u.A5 u.n5 u.c5, .slice u.A6 u.n6 u.c6, .slice u.A7 u.n7 u.c7, .slice u.A8 u.n8 u.c8, .slice u.A9 u.n9 u.c9, .bool u.plain, .int .i64 e.typ, .int .i64 e.rst, .int .i64 e.kil, .slice e.Apre e.pre.length e.cpre, .slice e.Asta e.sta.length e.csta, .slice e.Asto e.sto.length e.csto, .int .i64 e.rsec, .int .i64 e.ssec, .int .i64 e.tsec, .int .i64 e.wdog, .int .i64 e.burst, .int .i64 e.ivl, .bool e.remain, .string u.s24, .string u.s25, .int .i64 u.i26, .int .i64 u.i27, .slice u.A28 u.n28 u.c28, .slice u.A29 u.n29 u.c29, .slice u.A30 u.n30 u.c30, .string u.s31, .string u.s32] := by unfold unitV; simp only [hu, mkO]
  obtain ⟨uv, huv⟩ : ∃ uv, unitV e = uv := ⟨_, rfl⟩
  rw [huv] at hUV ⊢
  have HU := Aside0.mk hUV.symm
  have HL := Aside0.mk hl
  clear huv hUV hl hu
  by_cases c0 : (u.name.size : Int) ≤ 100
  case neg =>
    have d0 : decide ((u.name.size : Int) ≤ 100) = false := decide_eq_false c0
    have d0' : decide (u.name.size ≤ 100) = false := decide_eq_false (by omega)
    clear c0
    go_enter Try.func29, Try.ntmps29
    simp only [List.append_eq, List.cons_append, List.nil_append]
    go_wp2_with (first | ((with_reducible refine gate_dst (N := 1) rfl ?_); refine box_event ?hg (N := 1) ?hd (cs := #[.string u.name, .int .i64 u.kind, .int .i64 u.load, .slice u.A3 u.n3 u.c3, .slice u.A4 u.n4 u.c4, .slice u.A5 u.n5 u.c5, .slice u.A6 u.n6 u.c6, .slice u.A7 u.n7 u.c7, .slice u.A8 u.n8 u.c8, .slice u.A9 u.n9 u.c9, .bool u.plain, .int .i64 e.typ, .int .i64 e.rst, .int .i64 e.kil, .slice e.Apre e.pre.length e.cpre, .slice e.Asta e.sta.length e.csta, .slice e.Asto e.sto.length e.csto, .int .i64 e.rsec, .int .i64 e.ssec, .int .i64 e.tsec, .int .i64 e.wdog, .int .i64 e.burst, .int .i64 e.ivl, .bool e.remain, .string u.s24, .string u.s25, .int .i64 u.i26, .int .i64 u.i27, .slice u.A28 u.n28 u.c28, .slice u.A29 u.n29 u.c29, .slice u.A30 u.n30 u.c30, .string u.s31, .string u.s32]) (t := 24) ?hr ?_; (case hd => rfl); (case hg => rfl); (case hr => have hz_ := HU.out; subst hz_; first | (go_simp; done) | (go_simp; rfl)); intro g1 hg1 w1 hb1 hB1; have q0 : w1.cell? ⟨g1, 0, none⟩ = some (.string u.name) := (blk_cell hb1 0).trans rfl; have q3 : w1.cell? ⟨g1, 3, none⟩ = some (.slice u.A3 u.n3 u.c3) := (blk_cell hb1 3).trans rfl; have q4 : w1.cell? ⟨g1, 4, none⟩ = some (.slice u.A4 u.n4 u.c4) := (blk_cell hb1 4).trans rfl; have q5 : w1.cell? ⟨g1, 5, none⟩ = some (.slice u.A5 u.n5 u.c5) := (blk_cell hb1 5).trans rfl; have q6 : w1.cell? ⟨g1, 6, none⟩ = some (.slice u.A6 u.n6 u.c6) := (blk_cell hb1 6).trans rfl; have q7 : w1.cell? ⟨g1, 7, none⟩ = some (.slice u.A7 u.n7 u.c7) := (blk_cell hb1 7).trans rfl; have q8 : w1.cell? ⟨g1, 8, none⟩ = some (.slice u.A8 u.n8 u.c8) := (blk_cell hb1 8).trans rfl; have q9 : w1.cell? ⟨g1, 9, none⟩ = some (.slice u.A9 u.n9 u.c9) := (blk_cell hb1 9).trans rfl; have q14 : w1.cell? ⟨g1, 14, none⟩ = some (.slice e.Apre e.pre.length e.cpre) := (blk_cell hb1 14).trans rfl; have q15 : w1.cell? ⟨g1, 15, none⟩ = some (.slice e.Asta e.sta.length e.csta) := (blk_cell hb1 15).trans rfl; have q16 : w1.cell? ⟨g1, 16, none⟩ = some (.slice e.Asto e.sto.length e.csto) := (blk_cell hb1 16).trans rfl; have q24 : w1.cell? ⟨g1, 24, none⟩ = some (.string u.s24) := (blk_cell hb1 24).trans rfl; have q25 : w1.cell? ⟨g1, 25, none⟩ = some (.string u.s25) := (blk_cell hb1 25).trans rfl; have q28 : w1.cell? ⟨g1, 28, none⟩ = some (.slice u.A28 u.n28 u.c28) := (blk_cell hb1 28).trans rfl; have q29 : w1.cell? ⟨g1, 29, none⟩ = some (.slice u.A29 u.n29 u.c29) := (blk_cell hb1 29).trans rfl; have q30 : w1.cell? ⟨g1, 30, none⟩ = some (.slice u.A30 u.n30 u.c30) := (blk_cell hb1 30).trans rfl; have q31 : w1.cell? ⟨g1, 31, none⟩ = some (.string u.s31) := (blk_cell hb1 31).trans rfl; have q32 : w1.cell? ⟨g1, 32, none⟩ = some (.string u.s32) := (blk_cell hb1 32).trans rfl; have HB1 := Aside0.mk hB1; clear hg1 hb1 hB1) | (go_at_call 38; refine (short_calls (SL.below (by with_reducible first | exact HL.out.s3 | exact HL.out.s4 | exact HL.out.s5 | exact HL.out.s6 | exact HL.out.s7 | exact HL.out.s8 | exact HL.out.s9 | exact HL.out.s14 | exact HL.out.s15 | exact HL.out.s16 | exact HL.out.s28 | exact HL.out.s29 | exact HL.out.s30) (by with_reducible first | exact HB1.out | exact pw_below_drewN HB1.out _)) _ _).mono ?_; rintro e' w' ⟨r, m, rfl, rfl⟩; rcases r with _ | _; (next => (go_wp2_with (fail); go_ret; exact ⟨boolish _, (by with_reducible first | exact HB1.out | exact pw_below_drewN HB1.out _)⟩)); skip))
    go_ret
    exact ⟨boolish _, (by with_reducible first | exact HB1.out | exact pw_below_drewN HB1.out _)⟩
  have d0 : decide ((u.name.size : Int) ≤ 100) = true := decide_eq_true c0
  have d0' : decide (u.name.size ≤ 100) = true := decide_eq_true (by omega)
  clear c0
  by_cases c1 : (u.s24.size : Int) ≤ 300
  case neg =>
    have d1 : decide ((u.s24.size : Int) ≤ 300) = false := decide_eq_false c1
    have d1' : decide (u.s24.size ≤ 300) = false := decide_eq_false (by omega)
    clear c1
    go_enter Try.func29, Try.ntmps29
    simp only [List.append_eq, List.cons_append, List.nil_append]
    go_wp2_with (first | ((with_reducible refine gate_dst (N := 1) rfl ?_); refine box_event ?hg (N := 1) ?hd (cs := #[.string u.name, .int .i64 u.kind, .int .i64 u.load, .slice u.A3 u.n3 u.c3, .slice u.A4 u.n4 u.c4, .slice u.A5 u.n5 u.c5, .slice u.A6 u.n6 u.c6, .slice u.A7 u.n7 u.c7, .slice u.A8 u.n8 u.c8, .slice u.A9 u.n9 u.c9, .bool u.plain, .int .i64 e.typ, .int .i64 e.rst, .int .i64 e.kil, .slice e.Apre e.pre.length e.cpre, .slice e.Asta e.sta.length e.csta, .slice e.Asto e.sto.length e.csto, .int .i64 e.rsec, .int .i64 e.ssec, .int .i64 e.tsec, .int .i64 e.wdog, .int .i64 e.burst, .int .i64 e.ivl, .bool e.remain, .string u.s24, .string u.s25, .int .i64 u.i26, .int .i64 u.i27, .slice u.A28 u.n28 u.c28, .slice u.A29 u.n29 u.c29, .slice u.A30 u.n30 u.c30, .string u.s31, .string u.s32]) (t := 24) ?hr ?_; (case hd => rfl); (case hg => rfl); (case hr => have hz_ := HU.out; subst hz_; first | (go_simp; done) | (go_simp; rfl)); intro g1 hg1 w1 hb1 hB1; have q0 : w1.cell? ⟨g1, 0, none⟩ = some (.string u.name) := (blk_cell hb1 0).trans rfl; have q3 : w1.cell? ⟨g1, 3, none⟩ = some (.slice u.A3 u.n3 u.c3) := (blk_cell hb1 3).trans rfl; have q4 : w1.cell? ⟨g1, 4, none⟩ = some (.slice u.A4 u.n4 u.c4) := (blk_cell hb1 4).trans rfl; have q5 : w1.cell? ⟨g1, 5, none⟩ = some (.slice u.A5 u.n5 u.c5) := (blk_cell hb1 5).trans rfl; have q6 : w1.cell? ⟨g1, 6, none⟩ = some (.slice u.A6 u.n6 u.c6) := (blk_cell hb1 6).trans rfl; have q7 : w1.cell? ⟨g1, 7, none⟩ = some (.slice u.A7 u.n7 u.c7) := (blk_cell hb1 7).trans rfl; have q8 : w1.cell? ⟨g1, 8, none⟩ = some (.slice u.A8 u.n8 u.c8) := (blk_cell hb1 8).trans rfl; have q9 : w1.cell? ⟨g1, 9, none⟩ = some (.slice u.A9 u.n9 u.c9) := (blk_cell hb1 9).trans rfl; have q14 : w1.cell? ⟨g1, 14, none⟩ = some (.slice e.Apre e.pre.length e.cpre) := (blk_cell hb1 14).trans rfl; have q15 : w1.cell? ⟨g1, 15, none⟩ = some (.slice e.Asta e.sta.length e.csta) := (blk_cell hb1 15).trans rfl; have q16 : w1.cell? ⟨g1, 16, none⟩ = some (.slice e.Asto e.sto.length e.csto) := (blk_cell hb1 16).trans rfl; have q24 : w1.cell? ⟨g1, 24, none⟩ = some (.string u.s24) := (blk_cell hb1 24).trans rfl; have q25 : w1.cell? ⟨g1, 25, none⟩ = some (.string u.s25) := (blk_cell hb1 25).trans rfl; have q28 : w1.cell? ⟨g1, 28, none⟩ = some (.slice u.A28 u.n28 u.c28) := (blk_cell hb1 28).trans rfl; have q29 : w1.cell? ⟨g1, 29, none⟩ = some (.slice u.A29 u.n29 u.c29) := (blk_cell hb1 29).trans rfl; have q30 : w1.cell? ⟨g1, 30, none⟩ = some (.slice u.A30 u.n30 u.c30) := (blk_cell hb1 30).trans rfl; have q31 : w1.cell? ⟨g1, 31, none⟩ = some (.string u.s31) := (blk_cell hb1 31).trans rfl; have q32 : w1.cell? ⟨g1, 32, none⟩ = some (.string u.s32) := (blk_cell hb1 32).trans rfl; have HB1 := Aside0.mk hB1; clear hg1 hb1 hB1) | (go_at_call 38; refine (short_calls (SL.below (by with_reducible first | exact HL.out.s3 | exact HL.out.s4 | exact HL.out.s5 | exact HL.out.s6 | exact HL.out.s7 | exact HL.out.s8 | exact HL.out.s9 | exact HL.out.s14 | exact HL.out.s15 | exact HL.out.s16 | exact HL.out.s28 | exact HL.out.s29 | exact HL.out.s30) (by with_reducible first | exact HB1.out | exact pw_below_drewN HB1.out _)) _ _).mono ?_; rintro e' w' ⟨r, m, rfl, rfl⟩; rcases r with _ | _; (next => (go_wp2_with (fail); go_ret; exact ⟨boolish _, (by with_reducible first | exact HB1.out | exact pw_below_drewN HB1.out _)⟩)); skip))
    go_ret
    exact ⟨boolish _, (by with_reducible first | exact HB1.out | exact pw_below_drewN HB1.out _)⟩
  have d1 : decide ((u.s24.size : Int) ≤ 300) = true := decide_eq_true c1
  have d1' : decide (u.s24.size ≤ 300) = true := decide_eq_true (by omega)
  clear c1
  by_cases c2 : (u.s25.size : Int) ≤ 100
  case neg =>
    have d2 : decide ((u.s25.size : Int) ≤ 100) = false := decide_eq_false c2
    have d2' : decide (u.s25.size ≤ 100) = false := decide_eq_false (by omega)
    clear c2
    go_enter Try.func29, Try.ntmps29
    simp only [List.append_eq, List.cons_append, List.nil_append]
    go_wp2_with (first | ((with_reducible refine gate_dst (N := 1) rfl ?_); refine box_event ?hg (N := 1) ?hd (cs := #[.string u.name, .int .i64 u.kind, .int .i64 u.load, .slice u.A3 u.n3 u.c3, .slice u.A4 u.n4 u.c4, .slice u.A5 u.n5 u.c5, .slice u.A6 u.n6 u.c6, .slice u.A7 u.n7 u.c7, .slice u.A8 u.n8 u.c8, .slice u.A9 u.n9 u.c9, .bool u.plain, .int .i64 e.typ, .int .i64 e.rst, .int .i64 e.kil, .slice e.Apre e.pre.length e.cpre, .slice e.Asta e.sta.length e.csta, .slice e.Asto e.sto.length e.csto, .int .i64 e.rsec, .int .i64 e.ssec, .int .i64 e.tsec, .int .i64 e.wdog, .int .i64 e.burst, .int .i64 e.ivl, .bool e.remain, .string u.s24, .string u.s25, .int .i64 u.i26, .int .i64 u.i27, .slice u.A28 u.n28 u.c28, .slice u.A29 u.n29 u.c29, .slice u.A30 u.n30 u.c30, .string u.s31, .string u.s32]) (t := 24) ?hr ?_; (case hd => rfl); (case hg => rfl); (case hr => have hz_ := HU.out; subst hz_; first | (go_simp; done) | (go_simp; rfl)); intro g1 hg1 w1 hb1 hB1; have q0 : w1.cell? ⟨g1, 0, none⟩ = some (.string u.name) := (blk_cell hb1 0).trans rfl; have q3 : w1.cell? ⟨g1, 3, none⟩ = some (.slice u.A3 u.n3 u.c3) := (blk_cell hb1 3).trans rfl; have q4 : w1.cell? ⟨g1, 4, none⟩ = some (.slice u.A4 u.n4 u.c4) := (blk_cell hb1 4).trans rfl; have q5 : w1.cell? ⟨g1, 5, none⟩ = some (.slice u.A5 u.n5 u.c5) := (blk_cell hb1 5).trans rfl; have q6 : w1.cell? ⟨g1, 6, none⟩ = some (.slice u.A6 u.n6 u.c6) := (blk_cell hb1 6).trans rfl; have q7 : w1.cell? ⟨g1, 7, none⟩ = some (.slice u.A7 u.n7 u.c7) := (blk_cell hb1 7).trans rfl; have q8 : w1.cell? ⟨g1, 8, none⟩ = some (.slice u.A8 u.n8 u.c8) := (blk_cell hb1 8).trans rfl; have q9 : w1.cell? ⟨g1, 9, none⟩ = some (.slice u.A9 u.n9 u.c9) := (blk_cell hb1 9).trans rfl; have q14 : w1.cell? ⟨g1, 14, none⟩ = some (.slice e.Apre e.pre.length e.cpre) := (blk_cell hb1 14).trans rfl; have q15 : w1.cell? ⟨g1, 15, none⟩ = some (.slice e.Asta e.sta.length e.csta) := (blk_cell hb1 15).trans rfl; have q16 : w1.cell? ⟨g1, 16, none⟩ = some (.slice e.Asto e.sto.length e.csto) := (blk_cell hb1 16).trans rfl; have q24 : w1.cell? ⟨g1, 24, none⟩ = some (.string u.s24) := (blk_cell hb1 24).trans rfl; have q25 : w1.cell? ⟨g1, 25, none⟩ = some (.string u.s25) := (blk_cell hb1 25).trans rfl; have q28 : w1.cell? ⟨g1, 28, none⟩ = some (.slice u.A28 u.n28 u.c28) := (blk_cell hb1 28).trans rfl; have q29 : w1.cell? ⟨g1, 29, none⟩ = some (.slice u.A29 u.n29 u.c29) := (blk_cell hb1 29).trans rfl; have q30 : w1.cell? ⟨g1, 30, none⟩ = some (.slice u.A30 u.n30 u.c30) := (blk_cell hb1 30).trans rfl; have q31 : w1.cell? ⟨g1, 31, none⟩ = some (.string u.s31) := (blk_cell hb1 31).trans rfl; have q32 : w1.cell? ⟨g1, 32, none⟩ = some (.string u.s32) := (blk_cell hb1 32).trans rfl; have HB1 := Aside0.mk hB1; clear hg1 hb1 hB1) | (go_at_call 38; refine (short_calls (SL.below (by with_reducible first | exact HL.out.s3 | exact HL.out.s4 | exact HL.out.s5 | exact HL.out.s6 | exact HL.out.s7 | exact HL.out.s8 | exact HL.out.s9 | exact HL.out.s14 | exact HL.out.s15 | exact HL.out.s16 | exact HL.out.s28 | exact HL.out.s29 | exact HL.out.s30) (by with_reducible first | exact HB1.out | exact pw_below_drewN HB1.out _)) _ _).mono ?_; rintro e' w' ⟨r, m, rfl, rfl⟩; rcases r with _ | _; (next => (go_wp2_with (fail); go_ret; exact ⟨boolish _, (by with_reducible first | exact HB1.out | exact pw_below_drewN HB1.out _)⟩)); skip))
    go_ret
    exact ⟨boolish _, (by with_reducible first | exact HB1.out | exact pw_below_drewN HB1.out _)⟩
  have d2 : decide ((u.s25.size : Int) ≤ 100) = true := decide_eq_true c2
  have d2' : decide (u.s25.size ≤ 100) = true := decide_eq_true (by omega)
  clear c2
  by_cases c3 : (u.s31.size : Int) ≤ 300
  case neg =>
    have d3 : decide ((u.s31.size : Int) ≤ 300) = false := decide_eq_false c3
    have d3' : decide (u.s31.size ≤ 300) = false := decide_eq_false (by omega)
    clear c3
    go_enter Try.func29, Try.ntmps29
    simp only [List.append_eq, List.cons_append, List.nil_append]
    go_wp2_with (first | ((with_reducible refine gate_dst (N := 1) rfl ?_); refine box_event ?hg (N := 1) ?hd (cs := #[.string u.name, .int .i64 u.kind, .int .i64 u.load, .slice u.A3 u.n3 u.c3, .slice u.A4 u.n4 u.c4, .slice u.A5 u.n5 u.c5, .slice u.A6 u.n6 u.c6, .slice u.A7 u.n7 u.c7, .slice u.A8 u.n8 u.c8, .slice u.A9 u.n9 u.c9, .bool u.plain, .int .i64 e.typ, .int .i64 e.rst, .int .i64 e.kil, .slice e.Apre e.pre.length e.cpre, .slice e.Asta e.sta.length e.csta, .slice e.Asto e.sto.length e.csto, .int .i64 e.rsec, .int .i64 e.ssec, .int .i64 e.tsec, .int .i64 e.wdog, .int .i64 e.burst, .int .i64 e.ivl, .bool e.remain, .string u.s24, .string u.s25, .int .i64 u.i26, .int .i64 u.i27, .slice u.A28 u.n28 u.c28, .slice u.A29 u.n29 u.c29, .slice u.A30 u.n30 u.c30, .string u.s31, .string u.s32]) (t := 24) ?hr ?_; (case hd => rfl); (case hg => rfl); (case hr => have hz_ := HU.out; subst hz_; first | (go_simp; done) | (go_simp; rfl)); intro g1 hg1 w1 hb1 hB1; have q0 : w1.cell? ⟨g1, 0, none⟩ = some (.string u.name) := (blk_cell hb1 0).trans rfl; have q3 : w1.cell? ⟨g1, 3, none⟩ = some (.slice u.A3 u.n3 u.c3) := (blk_cell hb1 3).trans rfl; have q4 : w1.cell? ⟨g1, 4, none⟩ = some (.slice u.A4 u.n4 u.c4) := (blk_cell hb1 4).trans rfl; have q5 : w1.cell? ⟨g1, 5, none⟩ = some (.slice u.A5 u.n5 u.c5) := (blk_cell hb1 5).trans rfl; have q6 : w1.cell? ⟨g1, 6, none⟩ = some (.slice u.A6 u.n6 u.c6) := (blk_cell hb1 6).trans rfl; have q7 : w1.cell? ⟨g1, 7, none⟩ = some (.slice u.A7 u.n7 u.c7) := (blk_cell hb1 7).trans rfl; have q8 : w1.cell? ⟨g1, 8, none⟩ = some (.slice u.A8 u.n8 u.c8) := (blk_cell hb1 8).trans rfl; have q9 : w1.cell? ⟨g1, 9, none⟩ = some (.slice u.A9 u.n9 u.c9) := (blk_cell hb1 9).trans rfl; have q14 : w1.cell? ⟨g1, 14, none⟩ = some (.slice e.Apre e.pre.length e.cpre) := (blk_cell hb1 14).trans rfl; have q15 : w1.cell? ⟨g1, 15, none⟩ = some (.slice e.Asta e.sta.length e.csta) := (blk_cell hb1 15).trans rfl; have q16 : w1.cell? ⟨g1, 16, none⟩ = some (.slice e.Asto e.sto.length e.csto) := (blk_cell hb1 16).trans rfl; have q24 : w1.cell? ⟨g1, 24, none⟩ = some (.string u.s24) := (blk_cell hb1 24).trans rfl; have q25 : w1.cell? ⟨g1, 25, none⟩ = some (.string u.s25) := (blk_cell hb1 25).trans rfl; have q28 : w1.cell? ⟨g1, 28, none⟩ = some (.slice u.A28 u.n28 u.c28) := (blk_cell hb1 28).trans rfl; have q29 : w1.cell? ⟨g1, 29, none⟩ = some (.slice u.A29 u.n29 u.c29) := (blk_cell hb1 29).trans rfl; have q30 : w1.cell? ⟨g1, 30, none⟩ = some (.slice u.A30 u.n30 u.c30) := (blk_cell hb1 30).trans rfl; have q31 : w1.cell? ⟨g1, 31, none⟩ = some (.string u.s31) := (blk_cell hb1 31).trans rfl; have q32 : w1.cell? ⟨g1, 32, none⟩ = some (.string u.s32) := (blk_cell hb1 32).trans rfl; have HB1 := Aside0.mk hB1; clear hg1 hb1 hB1) | (go_at_call 38; refine (short_calls (SL.below (by with_reducible first | exact HL.out.s3 | exact HL.out.s4 | exact HL.out.s5 | exact HL.out.s6 | exact HL.out.s7 | exact HL.out.s8 | exact HL.out.s9 | exact HL.out.s14 | exact HL.out.s15 | exact HL.out.s16 | exact HL.out.s28 | exact HL.out.s29 | exact HL.out.s30) (by with_reducible first | exact HB1.out | exact pw_below_drewN HB1.out _)) _ _).mono ?_; rintro e' w' ⟨r, m, rfl, rfl⟩; rcases r with _ | _; (next => (go_wp2_with (fail); go_ret; exact ⟨boolish _, (by with_reducible first | exact HB1.out | exact pw_below_drewN HB1.out _)⟩)); skip))
    go_ret
    exact ⟨boolish _, (by with_reducible first | exact HB1.out | exact pw_below_drewN HB1.out _)⟩
  have d3 : decide ((u.s31.size : Int) ≤ 300) = true := decide_eq_true c3
  have d3' : decide (u.s31.size ≤ 300) = true := decide_eq_true (by omega)
  clear c3
  by_cases c4 : (u.s32.size : Int) ≤ 300
  case neg =>
    have d4 : decide ((u.s32.size : Int) ≤ 300) = false := decide_eq_false c4
    have d4' : decide (u.s32.size ≤ 300) = false := decide_eq_false (by omega)
    clear c4
    go_enter Try.func29, Try.ntmps29
    simp only [List.append_eq, List.cons_append, List.nil_append]
    go_wp2_with (first | ((with_reducible refine gate_dst (N := 1) rfl ?_); refine box_event ?hg (N := 1) ?hd (cs := #[.string u.name, .int .i64 u.kind, .int .i64 u.load, .slice u.A3 u.n3 u.c3, .slice u.A4 u.n4 u.c4, .slice u.A5 u.n5 u.c5, .slice u.A6 u.n6 u.c6, .slice u.A7 u.n7 u.c7, .slice u.A8 u.n8 u.c8, .slice u.A9 u.n9 u.c9, .bool u.plain, .int .i64 e.typ, .int .i64 e.rst, .int .i64 e.kil, .slice e.Apre e.pre.length e.cpre, .slice e.Asta e.sta.length e.csta, .slice e.Asto e.sto.length e.csto, .int .i64 e.rsec, .int .i64 e.ssec, .int .i64 e.tsec, .int .i64 e.wdog, .int .i64 e.burst, .int .i64 e.ivl, .bool e.remain, .string u.s24, .string u.s25, .int .i64 u.i26, .int .i64 u.i27, .slice u.A28 u.n28 u.c28, .slice u.A29 u.n29 u.c29, .slice u.A30 u.n30 u.c30, .string u.s31, .string u.s32]) (t := 24) ?hr ?_; (case hd => rfl); (case hg => rfl); (case hr => have hz_ := HU.out; subst hz_; first | (go_simp; done) | (go_simp; rfl)); intro g1 hg1 w1 hb1 hB1; have q0 : w1.cell? ⟨g1, 0, none⟩ = some (.string u.name) := (blk_cell hb1 0).trans rfl; have q3 : w1.cell? ⟨g1, 3, none⟩ = some (.slice u.A3 u.n3 u.c3) := (blk_cell hb1 3).trans rfl; have q4 : w1.cell? ⟨g1, 4, none⟩ = some (.slice u.A4 u.n4 u.c4) := (blk_cell hb1 4).trans rfl; have q5 : w1.cell? ⟨g1, 5, none⟩ = some (.slice u.A5 u.n5 u.c5) := (blk_cell hb1 5).trans rfl; have q6 : w1.cell? ⟨g1, 6, none⟩ = some (.slice u.A6 u.n6 u.c6) := (blk_cell hb1 6).trans rfl; have q7 : w1.cell? ⟨g1, 7, none⟩ = some (.slice u.A7 u.n7 u.c7) := (blk_cell hb1 7).trans rfl; have q8 : w1.cell? ⟨g1, 8, none⟩ = some (.slice u.A8 u.n8 u.c8) := (blk_cell hb1 8).trans rfl; have q9 : w1.cell? ⟨g1, 9, none⟩ = some (.slice u.A9 u.n9 u.c9) := (blk_cell hb1 9).trans rfl; have q14 : w1.cell? ⟨g1, 14, none⟩ = some (.slice e.Apre e.pre.length e.cpre) := (blk_cell hb1 14).trans rfl; have q15 : w1.cell? ⟨g1, 15, none⟩ = some (.slice e.Asta e.sta.length e.csta) := (blk_cell hb1 15).trans rfl; have q16 : w1.cell? ⟨g1, 16, none⟩ = some (.slice e.Asto e.sto.length e.csto) := (blk_cell hb1 16).trans rfl; have q24 : w1.cell? ⟨g1, 24, none⟩ = some (.string u.s24) := (blk_cell hb1 24).trans rfl; have q25 : w1.cell? ⟨g1, 25, none⟩ = some (.string u.s25) := (blk_cell hb1 25).trans rfl; have q28 : w1.cell? ⟨g1, 28, none⟩ = some (.slice u.A28 u.n28 u.c28) := (blk_cell hb1 28).trans rfl; have q29 : w1.cell? ⟨g1, 29, none⟩ = some (.slice u.A29 u.n29 u.c29) := (blk_cell hb1 29).trans rfl; have q30 : w1.cell? ⟨g1, 30, none⟩ = some (.slice u.A30 u.n30 u.c30) := (blk_cell hb1 30).trans rfl; have q31 : w1.cell? ⟨g1, 31, none⟩ = some (.string u.s31) := (blk_cell hb1 31).trans rfl; have q32 : w1.cell? ⟨g1, 32, none⟩ = some (.string u.s32) := (blk_cell hb1 32).trans rfl; have HB1 := Aside0.mk hB1; clear hg1 hb1 hB1) | (go_at_call 38; refine (short_calls (SL.below (by with_reducible first | exact HL.out.s3 | exact HL.out.s4 | exact HL.out.s5 | exact HL.out.s6 | exact HL.out.s7 | exact HL.out.s8 | exact HL.out.s9 | exact HL.out.s14 | exact HL.out.s15 | exact HL.out.s16 | exact HL.out.s28 | exact HL.out.s29 | exact HL.out.s30) (by with_reducible first | exact HB1.out | exact pw_below_drewN HB1.out _)) _ _).mono ?_; rintro e' w' ⟨r, m, rfl, rfl⟩; rcases r with _ | _; (next => (go_wp2_with (fail); go_ret; exact ⟨boolish _, (by with_reducible first | exact HB1.out | exact pw_below_drewN HB1.out _)⟩)); skip))
    go_ret
    exact ⟨boolish _, (by with_reducible first | exact HB1.out | exact pw_below_drewN HB1.out _)⟩
  have d4 : decide ((u.s32.size : Int) ≤ 300) = true := decide_eq_true c4
  have d4' : decide (u.s32.size ≤ 300) = true := decide_eq_true (by omega)
  clear c4
  go_enter Try.func29, Try.ntmps29
  simp only [List.append_eq, List.cons_append, List.nil_append]
  go_wp2_with (first | ((with_reducible refine gate_dst (N := 1) rfl ?_); refine box_event ?hg (N := 1) ?hd (cs := #[.string u.name, .int .i64 u.kind, .int .i64 u.load, .slice u.A3 u.n3 u.c3, .slice u.A4 u.n4 u.c4, .slice u.A5 u.n5 u.c5, .slice u.A6 u.n6 u.c6, .slice u.A7 u.n7 u.c7, .slice u.A8 u.n8 u.c8, .slice u.A9 u.n9 u.c9, .bool u.plain, .int .i64 e.typ, .int .i64 e.rst, .int .i64 e.kil, .slice e.Apre e.pre.length e.cpre, .slice e.Asta e.sta.length e.csta, .slice e.Asto e.sto.length e.csto, .int .i64 e.rsec, .int .i64 e.ssec, .int .i64 e.tsec, .int .i64 e.wdog, .int .i64 e.burst, .int .i64 e.ivl, .bool e.remain, .string u.s24, .string u.s25, .int .i64 u.i26, .int .i64 u.i27, .slice u.A28 u.n28 u.c28, .slice u.A29 u.n29 u.c29, .slice u.A30 u.n30 u.c30, .string u.s31, .string u.s32]) (t := 24) ?hr ?_; (case hd => rfl); (case hg => rfl); (case hr => have hz_ := HU.out; subst hz_; first | (go_simp; done) | (go_simp; rfl)); intro g1 hg1 w1 hb1 hB1; have q0 : w1.cell? ⟨g1, 0, none⟩ = some (.string u.name) := (blk_cell hb1 0).trans rfl; have q3 : w1.cell? ⟨g1, 3, none⟩ = some (.slice u.A3 u.n3 u.c3) := (blk_cell hb1 3).trans rfl; have q4 : w1.cell? ⟨g1, 4, none⟩ = some (.slice u.A4 u.n4 u.c4) := (blk_cell hb1 4).trans rfl; have q5 : w1.cell? ⟨g1, 5, none⟩ = some (.slice u.A5 u.n5 u.c5) := (blk_cell hb1 5).trans rfl; have q6 : w1.cell? ⟨g1, 6, none⟩ = some (.slice u.A6 u.n6 u.c6) := (blk_cell hb1 6).trans rfl; have q7 : w1.cell? ⟨g1, 7, none⟩ = some (.slice u.A7 u.n7 u.c7) := (blk_cell hb1 7).trans rfl; have q8 : w1.cell? ⟨g1, 8, none⟩ = some (.slice u.A8 u.n8 u.c8) := (blk_cell hb1 8).trans rfl; have q9 : w1.cell? ⟨g1, 9, none⟩ = some (.slice u.A9 u.n9 u.c9) := (blk_cell hb1 9).trans rfl; have q14 : w1.cell? ⟨g1, 14, none⟩ = some (.slice e.Apre e.pre.length e.cpre) := (blk_cell hb1 14).trans rfl; have q15 : w1.cell? ⟨g1, 15, none⟩ = some (.slice e.Asta e.sta.length e.csta) := (blk_cell hb1 15).trans rfl; have q16 : w1.cell? ⟨g1, 16, none⟩ = some (.slice e.Asto e.sto.length e.csto) := (blk_cell hb1 16).trans rfl; have q24 : w1.cell? ⟨g1, 24, none⟩ = some (.string u.s24) := (blk_cell hb1 24).trans rfl; have q25 : w1.cell? ⟨g1, 25, none⟩ = some (.string u.s25) := (blk_cell hb1 25).trans rfl; have q28 : w1.cell? ⟨g1, 28, none⟩ = some (.slice u.A28 u.n28 u.c28) := (blk_cell hb1 28).trans rfl; have q29 : w1.cell? ⟨g1, 29, none⟩ = some (.slice u.A29 u.n29 u.c29) := (blk_cell hb1 29).trans rfl; have q30 : w1.cell? ⟨g1, 30, none⟩ = some (.slice u.A30 u.n30 u.c30) := (blk_cell hb1 30).trans rfl; have q31 : w1.cell? ⟨g1, 31, none⟩ = some (.string u.s31) := (blk_cell hb1 31).trans rfl; have q32 : w1.cell? ⟨g1, 32, none⟩ = some (.string u.s32) := (blk_cell hb1 32).trans rfl; have HB1 := Aside0.mk hB1; clear hg1 hb1 hB1) | (go_at_call 38; refine (short_calls (SL.below (by with_reducible first | exact HL.out.s3 | exact HL.out.s4 | exact HL.out.s5 | exact HL.out.s6 | exact HL.out.s7 | exact HL.out.s8 | exact HL.out.s9 | exact HL.out.s14 | exact HL.out.s15 | exact HL.out.s16 | exact HL.out.s28 | exact HL.out.s29 | exact HL.out.s30) (by with_reducible first | exact HB1.out | exact pw_below_drewN HB1.out _)) _ _).mono ?_; rintro e' w' ⟨r, m, rfl, rfl⟩; rcases r with _ | _; (next => (go_wp2_with (fail); go_ret; exact ⟨boolish _, (by with_reducible first | exact HB1.out | exact pw_below_drewN HB1.out _)⟩)); skip))
  go_ret
  exact ⟨boolish _, (by with_reducible first | exact HB1.out | exact pw_below_drewN HB1.out _)⟩
end Go.Proofs.Ytnoddedgkgkfhaa.Svc
