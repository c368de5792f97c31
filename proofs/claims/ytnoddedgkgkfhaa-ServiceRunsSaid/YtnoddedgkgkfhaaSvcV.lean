/- few: what the laws take. -/
import Derived.Test.YtnoddedgkgkfhaaSvcQ
import Derived.Laws.Tables
namespace Go.Proofs.Ytnoddedgkgkfhaa.Svc
open Go.RowKit Go.Proofs.YtnoddedgkgkfhaaW.PrintWords Go.Proofs.YtnoddedgkgkfhaaW.PrintLast
set_option linter.unusedVariables false
set_option linter.unusedSimpArgs false
set_option maxRecDepth 100000
set_option maxHeartbeats 4000000
theorem few_calls {W : World} {e : En} (u : U0) (hu : e.o = mkO u) (hl : Lists W e u) (A1 : Option Addr) (c1 : Nat) (l1 : List S38) (hr1 : Kd.C k38 W A1 l1.length l1) :
    Calls Try.prog 15 #[unitV e, .slice A1 l1.length c1] W fun e' W' => (∃ r : Nat, e' = .returned (.bool (r == 1)) ∧ (r = 1 → l1.length ≤ 120)) ∧ Below W.heap.size W W' := by
  have HF := fun (X : World) (hX : Below W.heap.size W X) => few1_calls (W := X) (e := e) u hu (hl.below hX)
  have hUV : unitV e = .agg #[.string u.name, .int .i64 u.kind, .int .i64 u.load, .slice u.A3 u.n3 u.c3, .slice u.A4 u.n4 u.c4, .slice u.A5 u.n5 u.c5, .slice u.A6 u.n6 u.c6, .slice u.A7 u.n7 u.c7, .slice u.A8 u.n8 u.c8, .slice u.A9 u.n9 u.c9, .bool u.plain, .int .i64 e.typ, .int .i64 e.rst, .int .i64 e.kil, .slice e.Apre e.pre.length e.cpre, .slice e.Asta e.sta.length e.csta, .slice e.Asto e.sto.length e.csto, .int .i64 e.rsec, .int .i64 e.ssec, .int .i64 e.tsec, .int .i64 e.wdog, .int .i64 e.burst, .int .i64 e.ivl, .bool e.remain, .string u.s24, .string u.s25, .int .i64 u.i26, .int .i64 u.i27, .slice u.A28 u.n28 u.c28, .slice u.A29 u.n29 u.c29, .slice u.A30 u.n30 u.c30, .string u.s31, .string u.s32] := by unfold unitV; simp only [hu, mkO]
  obtain ⟨uv, huv⟩ : ∃ uv, unitV e = uv := ⟨_, rfl⟩
  simp only [huv] at HF
  rw [huv] at hUV ⊢
  have HU := Aside0.mk hUV.symm
  have HR1 := Aside0.mk hr1
  have hm1 := Aside0.mk hr1.2.1
  clear huv hUV hl hu hr1
  go_enter Try.func15, Try.ntmps15
  go_wp2_with (first | ((with_reducible refine gate_dst (N := 2) rfl ?_); refine box_event ?hg (N := 2) ?hd (cs := #[.string u.name, .int .i64 u.kind, .int .i64 u.load, .slice u.A3 u.n3 u.c3, .slice u.A4 u.n4 u.c4, .slice u.A5 u.n5 u.c5, .slice u.A6 u.n6 u.c6, .slice u.A7 u.n7 u.c7, .slice u.A8 u.n8 u.c8, .slice u.A9 u.n9 u.c9, .bool u.plain, .int .i64 e.typ, .int .i64 e.rst, .int .i64 e.kil, .slice e.Apre e.pre.length e.cpre, .slice e.Asta e.sta.length e.csta, .slice e.Asto e.sto.length e.csto, .int .i64 e.rsec, .int .i64 e.ssec, .int .i64 e.tsec, .int .i64 e.wdog, .int .i64 e.burst, .int .i64 e.ivl, .bool e.remain, .string u.s24, .string u.s25, .int .i64 u.i26, .int .i64 u.i27, .slice u.A28 u.n28 u.c28, .slice u.A29 u.n29 u.c29, .slice u.A30 u.n30 u.c30, .string u.s31, .string u.s32]) (t := 24) ?hr ?_; (case hd => rfl); (case hg => rfl); (case hr => have hz_ := HU.out; subst hz_; first | (go_simp; done) | (go_simp; rfl)); intro g1 hg1 w1 hb1 hB1; have HB1 := Aside0.mk hB1; have BK := Aside0.mk hb1; clear hg1 hb1 hB1))
  go_loopg [5] (l1.length + 1) (fun kq v5 w' => ∃ i : Nat, v5 = .int .i64 (i : Int) ∧ Aside0 (i + kq = l1.length + 1 ∧ i ≤ l1.length) ∧ Aside0 (kq ≤ l1.length + 1) ∧ Drawn0 w1 w')
  case atStart => exact ⟨0, rfl, ⟨by omega, by omega⟩, ⟨Nat.le_refl _⟩, Drawn0.refl _⟩
  case round =>
    obtain ⟨i, rfl, HI, HK1, ⟨m1, rfl⟩⟩ := hrel
    cases gk with
    | zero => exact absurd HI.out (by omega)
    | succ k1 =>
      by_cases c4 : i < l1.length
      case pos =>
        have c4b : decide ((i : Int) < (l1.length : Int)) = true := decide_eq_true (by omega)
        have c4c : decide (i < l1.length) = true := decide_eq_true c4
        have p347 : 0 ≤ (i : Int) := by omega
        have q347 : (i : Int) < (l1.length : Int) := by omega
        have HN := Aside0.mk (⟨by have := HI.out.1; omega, c4⟩ : i + 1 + k1 = l1.length + 1 ∧ i < l1.length)
        have HW := Aside0.mk (wrap_len c4 hm1.out)
        clear c4
        obtain ⟨ad347, e347, hx347_0, hx347_1, hx347_2, hx347_3, hx347_4⟩ := at_T38 HR1.out (i : Int) p347 q347
        cases e347
        replace hx347_3 := (HB1.out.cell (World.block_lt_of_cell? W _ hx347_3)).trans hx347_3
        simp only [Int.toNat_natCast] at hx347_3
        clear hx347_0 hx347_1 hx347_2 hx347_4
        replace p347 := eq_true p347
        replace q347 := eq_true q347
        by_cases c6 : (((rd_T38 l1 (i : Int)).f3).size : Int) > 100
        case pos =>
          have c6b0 : decide (100 < (((rd_T38 l1 (i : Int)).f3).size : Int)) = true := decide_eq_true c6
          have c6b1 : decide (100 < ((rd_T38 l1 (i : Int)).f3).size) = true := decide_eq_true (by omega)
          clear c6
          go_wp2
          go_ret
          exact ⟨⟨0, rfl, fun h => absurd h (by decide)⟩, (by with_reducible first | exact HB1.out | exact pw_below_drewN HB1.out _)⟩
        case neg =>
          have c6b0 : decide (100 < (((rd_T38 l1 (i : Int)).f3).size : Int)) = false := decide_eq_false c6
          have c6b1 : decide (100 < ((rd_T38 l1 (i : Int)).f3).size) = false := decide_eq_false (by omega)
          clear c6
          go_wp2
          go_roundg k1
          case measure => have := HK1.out; omega
          case rel => exact ⟨i + 1, by rw [HW.out], ⟨HN.out.1, HN.out.2⟩, ⟨by have := HK1.out; omega⟩, by repeat (first | exact Drawn0.refl _ | apply Drawn0.step)⟩
      case neg =>
        have c4b : decide ((i : Int) < (l1.length : Int)) = false := decide_eq_false (by omega)
        have c4c : decide (i < l1.length) = false := decide_eq_false c4
        clear c4
        by_cases c5 : l1.length ≤ 120
        case pos =>
          have d5 : decide ((l1.length : Int) ≤ 120) = true := decide_eq_true (by omega)
          have d5' : decide (l1.length ≤ 120) = true := decide_eq_true c5
          have H5 := Aside0.mk c5
          clear c5
          go_wp2_with (first | ((with_reducible refine gate_dst (N := 19) rfl ?_); refine wpList_load_row rfl 24 _ rfl g1 rfl 24 _ _ _ BK.out Try.underlying24 rfl (by kernel_rfl) ?_; rw [HU.out]) | (go_at_call 29; refine (HF _ (by with_reducible first | exact HB1.out | exact pw_below_drewN HB1.out _)).mono ?_; rintro e' w5 ⟨⟨r, rfl⟩, hB5⟩; have HB5 := Aside0.mk ((by with_reducible first | exact HB1.out | exact pw_below_drewN HB1.out _ : Below W.heap.size W _).trans (hB5.mono HB1.out.size)); clear hB5; rcases r with _ | _; (next => (go_wp2_with (fail); go_ret; exact ⟨⟨0, rfl, fun h => absurd h (by decide)⟩, (by with_reducible first | exact HB5.out | exact pw_below_drewN HB5.out _)⟩)); skip))
          go_ret
          exact ⟨⟨1, rfl, fun _ => H5.out⟩, (by with_reducible first | exact HB5.out | exact pw_below_drewN HB5.out _)⟩
        case neg =>
          have d5 : decide ((l1.length : Int) ≤ 120) = false := decide_eq_false (by omega)
          have d5' : decide (l1.length ≤ 120) = false := decide_eq_false c5
          have H5 := Aside0.mk c5
          clear c5
          go_wp2_with (first | ((with_reducible refine gate_dst (N := 19) rfl ?_); refine wpList_load_row rfl 24 _ rfl g1 rfl 24 _ _ _ BK.out Try.underlying24 rfl (by kernel_rfl) ?_; rw [HU.out]) | (go_at_call 29; refine (HF _ (by with_reducible first | exact HB1.out | exact pw_below_drewN HB1.out _)).mono ?_; rintro e' w5 ⟨⟨r, rfl⟩, hB5⟩; have HB5 := Aside0.mk ((by with_reducible first | exact HB1.out | exact pw_below_drewN HB1.out _ : Below W.heap.size W _).trans (hB5.mono HB1.out.size)); clear hB5; rcases r with _ | _; (next => (go_wp2_with (fail); go_ret; exact ⟨⟨0, rfl, fun h => absurd h (by decide)⟩, (by with_reducible first | exact HB5.out | exact pw_below_drewN HB5.out _)⟩)); skip))
          go_ret
          exact ⟨⟨0, rfl, fun h => absurd h (by decide)⟩, (by with_reducible first | exact HB5.out | exact pw_below_drewN HB5.out _)⟩
end Go.Proofs.Ytnoddedgkgkfhaa.Svc
