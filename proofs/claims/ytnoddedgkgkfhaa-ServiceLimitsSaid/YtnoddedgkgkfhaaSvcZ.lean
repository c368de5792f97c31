/- ServiceLimits walked. -/
import Derived.Test.YtnoddedgkgkfhaaSvcZ0
namespace Go.Proofs.Ytnoddedgkgkfhaa.Svc
open Go.RowKit Go.Proofs.YtnoddedgkgkfhaaW.PrintWords Go.Proofs.YtnoddedgkgkfhaaW.PrintLast
set_option linter.unusedVariables false
set_option linter.unusedSimpArgs false
attribute [local go_sem ↓] execOp_load24
attribute [local go_sem] max2J maxTwo
theorem wpl_letter {P : Program} {ops : Array Oper} {Q : Exit → Act → World → Prop} {o : Oper} {rest : List Oper} {a : Act} {W : World} {N : Tmp} (_hN : o.dst = some N) (h : ∀ w9, w9 = W → wpList P ops Q (o :: rest) a w9) : wpList P ops Q (o :: rest) a W := h W rfl
theorem wrapI (n : Int) : IntKind.i64.wrap n = wrap64 n := by rw [IntKind.wrap_i64, wrap64]
theorem wrap_kb {k b kb : Nat} (h : kb = k + b) (h2 : kb ≤ 1000) : wrap64 ((k : Int) + (b : Int)) = (kb : Int) := by unfold wrap64; omega
theorem wrap_sub {y z : Int} (h1 : 0 ≤ y) (h2 : 0 ≤ z) (h3 : y ≤ 100000) (h4 : z ≤ 100000) : wrap64 (z - y) = z - y := by unfold wrap64; omega
theorem row_cells {W : World} {N m c : Nat} {AB : Option Addr} {xs : List Int} (h : W.ownsRow N 2 1 (.slice AB m c) xs.length (xs.map (Value.int .i64))) (h0 : 0 < xs.length) : ∃ ad, AB = some ad ∧ ∀ k x, xs[k]? = some x → ∀ X, Below W.heap.size W X → X.cell? (ad.add k) = some (.int .i64 x) := by
  have h1 := h
  rcases h.2 with ⟨h2, h3⟩ | ⟨g, cap, cur, h2, _⟩
  · injection h2 with e1 e2 e3
    omega
  · injection h2 with e1 e2 e3
    subst e1
    refine ⟨⟨g, 0, none⟩, rfl, fun k x hx X hX => ?_⟩
    have hc := h1.cells (g := g) rfl k (.int .i64 x) (by rw [List.getElem?_map, hx]; rfl)
    exact (hX.cell (World.block_lt_of_cell? W _ hc)).trans hc
set_option maxRecDepth 100000
set_option maxHeartbeats 4000000
theorem limits_calls {W : World} {e : En} (u : U0) (hu : e.o = mkO u) (hl : Lists W e u) (A1 : Option Addr) (c1 : Nat) (l1 : List S38) (hr1 : Kd.C k38 W A1 l1.length l1) (hsz : Try.prog.globals.size ≤ W.heap.size)
    (hp : Kd.C Kd.string W e.Apre e.pre.length e.pre ∧ Kd.C Kd.string W e.Asta e.sta.length e.sta ∧ Kd.C Kd.string W e.Asto e.sto.length e.sto) :
    Calls Try.prog 4 #[unitV e, .slice A1 l1.length c1] W fun e' W' => e' = .returned (.bool true) ∧ Below W.heap.size W W' := by
  have HK := fun (X : World) (hX : Below W.heap.size W X) => known_calls X (Nat.le_trans hsz hX.size)
  have HF := fun (X : World) (hX : Below W.heap.size W X) => few_calls (W := X) (e := e) u hu (hl.below hX) A1 c1 l1 (Kd.C_below hr1 hX)
  have HSt := fun (X : World) (x : S38) (s : S) (A : Option Addr) (n c : Nat) (hr : RowA X (.slice A n c) s.starts) (hn : s.starts.length ≤ 100000) (hb : Below W.heap.size W X) => step_calls (W := X) (e := inE e x) (s := s) u hu A n c hr hn
    ⟨Kd.C_below hp.1 hb, Kd.C_below hp.2.1 hb, Kd.C_below hp.2.2 hb⟩
  have hUV : unitV e = .agg #[.string u.name, .int .i64 u.kind, .int .i64 u.load, .slice u.A3 u.n3 u.c3, .slice u.A4 u.n4 u.c4, .slice u.A5 u.n5 u.c5, .slice u.A6 u.n6 u.c6, .slice u.A7 u.n7 u.c7, .slice u.A8 u.n8 u.c8, .slice u.A9 u.n9 u.c9, .bool u.plain, .int .i64 e.typ, .int .i64 e.rst, .int .i64 e.kil, .slice e.Apre e.pre.length e.cpre, .slice e.Asta e.sta.length e.csta, .slice e.Asto e.sto.length e.csto, .int .i64 e.rsec, .int .i64 e.ssec, .int .i64 e.tsec, .int .i64 e.wdog, .int .i64 e.burst, .int .i64 e.ivl, .bool e.remain, .string u.s24, .string u.s25, .int .i64 u.i26, .int .i64 u.i27, .slice u.A28 u.n28 u.c28, .slice u.A29 u.n29 u.c29, .slice u.A30 u.n30 u.c30, .string u.s31, .string u.s32] := by unfold unitV; simp only [hu, mkO]
  obtain ⟨uv, huv⟩ : ∃ uv, unitV e = uv := ⟨_, rfl⟩
  simp only [unitV_inE, inV_inE, svcV, huv] at HF HSt
  rw [huv] at hUV ⊢
  have HU := Aside0.mk hUV.symm
  have HL := Aside0.mk hl
  have HR1 := Aside0.mk hr1
  have HST := Aside0.mk HSt
  have hm1 := Aside0.mk hr1.2.1
  clear huv hUV hl hr1 hp HSt
  rcases bounds_cases e.burst e.ivl with d1 | ⟨d1, d2⟩ | ⟨d1, d2, d3⟩ | ⟨d1, d2, d3, d4⟩ | ⟨d1, d2, d3, d4⟩
  · go_enter Try.func4, Try.ntmps4
    go_wp2_with (first | ((with_reducible refine gate_dst (N := 2) rfl ?_); refine box_event ?hg (N := 2) ?hd (cs := #[.string u.name, .int .i64 u.kind, .int .i64 u.load, .slice u.A3 u.n3 u.c3, .slice u.A4 u.n4 u.c4, .slice u.A5 u.n5 u.c5, .slice u.A6 u.n6 u.c6, .slice u.A7 u.n7 u.c7, .slice u.A8 u.n8 u.c8, .slice u.A9 u.n9 u.c9, .bool u.plain, .int .i64 e.typ, .int .i64 e.rst, .int .i64 e.kil, .slice e.Apre e.pre.length e.cpre, .slice e.Asta e.sta.length e.csta, .slice e.Asto e.sto.length e.csto, .int .i64 e.rsec, .int .i64 e.ssec, .int .i64 e.tsec, .int .i64 e.wdog, .int .i64 e.burst, .int .i64 e.ivl, .bool e.remain, .string u.s24, .string u.s25, .int .i64 u.i26, .int .i64 u.i27, .slice u.A28 u.n28 u.c28, .slice u.A29 u.n29 u.c29, .slice u.A30 u.n30 u.c30, .string u.s31, .string u.s32]) (t := 24) ?hr ?_; (case hd => rfl); (case hg => rfl); (case hr => have hz_ := HU.out; subst hz_; first | (go_simp; done) | (go_simp; rfl)); intro g1 hg1 w1 hb1 hB1; have HB1 := Aside0.mk hB1; have BK1 := Aside0.mk hb1; clear hg1 hb1 hB1) | (go_at_call 14; refine (HK _ HB1.out).mono ?_; rintro e' w2 ⟨rfl, hB2⟩; have HB2 := Aside0.mk (HB1.out.trans (hB2.mono HB1.out.size)); have BK2 := Aside0.mk ((hB2.block g1 (blk_lt BK1.out)).trans BK1.out); have L2 := load24_run BK2.out (by kernel_rfl); rw [HU.out] at L2; clear hB2) | (go_at_call 15; refine (HF _ HB2.out).mono ?_; rintro e' w3 ⟨⟨r, rfl, hr120⟩, hB3⟩; have HB3 := Aside0.mk (HB2.out.trans (hB3.mono HB2.out.size)); have BK3 := Aside0.mk ((hB3.block g1 (blk_lt BK2.out)).trans BK2.out); have c21 : w3.cell? ⟨g1, 21, none⟩ = some (.int .i64 e.burst) := (blk_cell BK3.out 21).trans rfl; have c22 : w3.cell? ⟨g1, 22, none⟩ = some (.int .i64 e.ivl) := (blk_cell BK3.out 22).trans rfl; clear hB3 L2; rcases h1 : (r == 1) with _ | _; (next => (go_wp2_with (fail); go_ret; exact ⟨rfl, HB3.out⟩)); have HR120 := Aside0.mk (hr120 (beq_iff_eq.1 h1)); clear hr120))
    go_ret
    exact ⟨rfl, HB3.out⟩
  · go_enter Try.func4, Try.ntmps4
    go_wp2_with (first | ((with_reducible refine gate_dst (N := 2) rfl ?_); refine box_event ?hg (N := 2) ?hd (cs := #[.string u.name, .int .i64 u.kind, .int .i64 u.load, .slice u.A3 u.n3 u.c3, .slice u.A4 u.n4 u.c4, .slice u.A5 u.n5 u.c5, .slice u.A6 u.n6 u.c6, .slice u.A7 u.n7 u.c7, .slice u.A8 u.n8 u.c8, .slice u.A9 u.n9 u.c9, .bool u.plain, .int .i64 e.typ, .int .i64 e.rst, .int .i64 e.kil, .slice e.Apre e.pre.length e.cpre, .slice e.Asta e.sta.length e.csta, .slice e.Asto e.sto.length e.csto, .int .i64 e.rsec, .int .i64 e.ssec, .int .i64 e.tsec, .int .i64 e.wdog, .int .i64 e.burst, .int .i64 e.ivl, .bool e.remain, .string u.s24, .string u.s25, .int .i64 u.i26, .int .i64 u.i27, .slice u.A28 u.n28 u.c28, .slice u.A29 u.n29 u.c29, .slice u.A30 u.n30 u.c30, .string u.s31, .string u.s32]) (t := 24) ?hr ?_; (case hd => rfl); (case hg => rfl); (case hr => have hz_ := HU.out; subst hz_; first | (go_simp; done) | (go_simp; rfl)); intro g1 hg1 w1 hb1 hB1; have HB1 := Aside0.mk hB1; have BK1 := Aside0.mk hb1; clear hg1 hb1 hB1) | (go_at_call 14; refine (HK _ HB1.out).mono ?_; rintro e' w2 ⟨rfl, hB2⟩; have HB2 := Aside0.mk (HB1.out.trans (hB2.mono HB1.out.size)); have BK2 := Aside0.mk ((hB2.block g1 (blk_lt BK1.out)).trans BK1.out); have L2 := load24_run BK2.out (by kernel_rfl); rw [HU.out] at L2; clear hB2) | (go_at_call 15; refine (HF _ HB2.out).mono ?_; rintro e' w3 ⟨⟨r, rfl, hr120⟩, hB3⟩; have HB3 := Aside0.mk (HB2.out.trans (hB3.mono HB2.out.size)); have BK3 := Aside0.mk ((hB3.block g1 (blk_lt BK2.out)).trans BK2.out); have c21 : w3.cell? ⟨g1, 21, none⟩ = some (.int .i64 e.burst) := (blk_cell BK3.out 21).trans rfl; have c22 : w3.cell? ⟨g1, 22, none⟩ = some (.int .i64 e.ivl) := (blk_cell BK3.out 22).trans rfl; clear hB3 L2; rcases h1 : (r == 1) with _ | _; (next => (go_wp2_with (fail); go_ret; exact ⟨rfl, HB3.out⟩)); have HR120 := Aside0.mk (hr120 (beq_iff_eq.1 h1)); clear hr120))
    go_ret
    exact ⟨rfl, HB3.out⟩
  · go_enter Try.func4, Try.ntmps4
    go_wp2_with (first | ((with_reducible refine gate_dst (N := 2) rfl ?_); refine box_event ?hg (N := 2) ?hd (cs := #[.string u.name, .int .i64 u.kind, .int .i64 u.load, .slice u.A3 u.n3 u.c3, .slice u.A4 u.n4 u.c4, .slice u.A5 u.n5 u.c5, .slice u.A6 u.n6 u.c6, .slice u.A7 u.n7 u.c7, .slice u.A8 u.n8 u.c8, .slice u.A9 u.n9 u.c9, .bool u.plain, .int .i64 e.typ, .int .i64 e.rst, .int .i64 e.kil, .slice e.Apre e.pre.length e.cpre, .slice e.Asta e.sta.length e.csta, .slice e.Asto e.sto.length e.csto, .int .i64 e.rsec, .int .i64 e.ssec, .int .i64 e.tsec, .int .i64 e.wdog, .int .i64 e.burst, .int .i64 e.ivl, .bool e.remain, .string u.s24, .string u.s25, .int .i64 u.i26, .int .i64 u.i27, .slice u.A28 u.n28 u.c28, .slice u.A29 u.n29 u.c29, .slice u.A30 u.n30 u.c30, .string u.s31, .string u.s32]) (t := 24) ?hr ?_; (case hd => rfl); (case hg => rfl); (case hr => have hz_ := HU.out; subst hz_; first | (go_simp; done) | (go_simp; rfl)); intro g1 hg1 w1 hb1 hB1; have HB1 := Aside0.mk hB1; have BK1 := Aside0.mk hb1; clear hg1 hb1 hB1) | (go_at_call 14; refine (HK _ HB1.out).mono ?_; rintro e' w2 ⟨rfl, hB2⟩; have HB2 := Aside0.mk (HB1.out.trans (hB2.mono HB1.out.size)); have BK2 := Aside0.mk ((hB2.block g1 (blk_lt BK1.out)).trans BK1.out); have L2 := load24_run BK2.out (by kernel_rfl); rw [HU.out] at L2; clear hB2) | (go_at_call 15; refine (HF _ HB2.out).mono ?_; rintro e' w3 ⟨⟨r, rfl, hr120⟩, hB3⟩; have HB3 := Aside0.mk (HB2.out.trans (hB3.mono HB2.out.size)); have BK3 := Aside0.mk ((hB3.block g1 (blk_lt BK2.out)).trans BK2.out); have c21 : w3.cell? ⟨g1, 21, none⟩ = some (.int .i64 e.burst) := (blk_cell BK3.out 21).trans rfl; have c22 : w3.cell? ⟨g1, 22, none⟩ = some (.int .i64 e.ivl) := (blk_cell BK3.out 22).trans rfl; clear hB3 L2; rcases h1 : (r == 1) with _ | _; (next => (go_wp2_with (fail); go_ret; exact ⟨rfl, HB3.out⟩)); have HR120 := Aside0.mk (hr120 (beq_iff_eq.1 h1)); clear hr120))
    go_ret
    exact ⟨rfl, HB3.out⟩
  · go_enter Try.func4, Try.ntmps4
    go_wp2_with (first | ((with_reducible refine gate_dst (N := 2) rfl ?_); refine box_event ?hg (N := 2) ?hd (cs := #[.string u.name, .int .i64 u.kind, .int .i64 u.load, .slice u.A3 u.n3 u.c3, .slice u.A4 u.n4 u.c4, .slice u.A5 u.n5 u.c5, .slice u.A6 u.n6 u.c6, .slice u.A7 u.n7 u.c7, .slice u.A8 u.n8 u.c8, .slice u.A9 u.n9 u.c9, .bool u.plain, .int .i64 e.typ, .int .i64 e.rst, .int .i64 e.kil, .slice e.Apre e.pre.length e.cpre, .slice e.Asta e.sta.length e.csta, .slice e.Asto e.sto.length e.csto, .int .i64 e.rsec, .int .i64 e.ssec, .int .i64 e.tsec, .int .i64 e.wdog, .int .i64 e.burst, .int .i64 e.ivl, .bool e.remain, .string u.s24, .string u.s25, .int .i64 u.i26, .int .i64 u.i27, .slice u.A28 u.n28 u.c28, .slice u.A29 u.n29 u.c29, .slice u.A30 u.n30 u.c30, .string u.s31, .string u.s32]) (t := 24) ?hr ?_; (case hd => rfl); (case hg => rfl); (case hr => have hz_ := HU.out; subst hz_; first | (go_simp; done) | (go_simp; rfl)); intro g1 hg1 w1 hb1 hB1; have HB1 := Aside0.mk hB1; have BK1 := Aside0.mk hb1; clear hg1 hb1 hB1) | (go_at_call 14; refine (HK _ HB1.out).mono ?_; rintro e' w2 ⟨rfl, hB2⟩; have HB2 := Aside0.mk (HB1.out.trans (hB2.mono HB1.out.size)); have BK2 := Aside0.mk ((hB2.block g1 (blk_lt BK1.out)).trans BK1.out); have L2 := load24_run BK2.out (by kernel_rfl); rw [HU.out] at L2; clear hB2) | (go_at_call 15; refine (HF _ HB2.out).mono ?_; rintro e' w3 ⟨⟨r, rfl, hr120⟩, hB3⟩; have HB3 := Aside0.mk (HB2.out.trans (hB3.mono HB2.out.size)); have BK3 := Aside0.mk ((hB3.block g1 (blk_lt BK2.out)).trans BK2.out); have c21 : w3.cell? ⟨g1, 21, none⟩ = some (.int .i64 e.burst) := (blk_cell BK3.out 21).trans rfl; have c22 : w3.cell? ⟨g1, 22, none⟩ = some (.int .i64 e.ivl) := (blk_cell BK3.out 22).trans rfl; clear hB3 L2; rcases h1 : (r == 1) with _ | _; (next => (go_wp2_with (fail); go_ret; exact ⟨rfl, HB3.out⟩)); have HR120 := Aside0.mk (hr120 (beq_iff_eq.1 h1)); clear hr120))
    go_ret
    exact ⟨rfl, HB3.out⟩
  have HBD := Aside0.mk (bounds_in d1 d2 d3 d4)
  go_enter Try.func4, Try.ntmps4
  go_wp2_with (first | ((with_reducible refine gate_dst (N := 2) rfl ?_); refine box_event ?hg (N := 2) ?hd (cs := #[.string u.name, .int .i64 u.kind, .int .i64 u.load, .slice u.A3 u.n3 u.c3, .slice u.A4 u.n4 u.c4, .slice u.A5 u.n5 u.c5, .slice u.A6 u.n6 u.c6, .slice u.A7 u.n7 u.c7, .slice u.A8 u.n8 u.c8, .slice u.A9 u.n9 u.c9, .bool u.plain, .int .i64 e.typ, .int .i64 e.rst, .int .i64 e.kil, .slice e.Apre e.pre.length e.cpre, .slice e.Asta e.sta.length e.csta, .slice e.Asto e.sto.length e.csto, .int .i64 e.rsec, .int .i64 e.ssec, .int .i64 e.tsec, .int .i64 e.wdog, .int .i64 e.burst, .int .i64 e.ivl, .bool e.remain, .string u.s24, .string u.s25, .int .i64 u.i26, .int .i64 u.i27, .slice u.A28 u.n28 u.c28, .slice u.A29 u.n29 u.c29, .slice u.A30 u.n30 u.c30, .string u.s31, .string u.s32]) (t := 24) ?hr ?_; (case hd => rfl); (case hg => rfl); (case hr => have hz_ := HU.out; subst hz_; first | (go_simp; done) | (go_simp; rfl)); intro g1 hg1 w1 hb1 hB1; have HB1 := Aside0.mk hB1; have BK1 := Aside0.mk hb1; clear hg1 hb1 hB1) | (go_at_call 14; refine (HK _ HB1.out).mono ?_; rintro e' w2 ⟨rfl, hB2⟩; have HB2 := Aside0.mk (HB1.out.trans (hB2.mono HB1.out.size)); have BK2 := Aside0.mk ((hB2.block g1 (blk_lt BK1.out)).trans BK1.out); have L2 := load24_run BK2.out (by kernel_rfl); rw [HU.out] at L2; clear hB2) | (go_at_call 15; refine (HF _ HB2.out).mono ?_; rintro e' w3 ⟨⟨r, rfl, hr120⟩, hB3⟩; have HB3 := Aside0.mk (HB2.out.trans (hB3.mono HB2.out.size)); have BK3 := Aside0.mk ((hB3.block g1 (blk_lt BK2.out)).trans BK2.out); have c21 : w3.cell? ⟨g1, 21, none⟩ = some (.int .i64 e.burst) := (blk_cell BK3.out 21).trans rfl; have c22 : w3.cell? ⟨g1, 22, none⟩ = some (.int .i64 e.ivl) := (blk_cell BK3.out 22).trans rfl; clear hB3 L2; rcases h1 : (r == 1) with _ | _; (next => (go_wp2_with (fail); go_ret; exact ⟨rfl, HB3.out⟩)); have HR120 := Aside0.mk (hr120 (beq_iff_eq.1 h1)); clear hr120) | (go_at_call 16; refine (new_calls _).mono ?_; rintro e' w4 ⟨⟨A0, n0, c0, rfl, hra0⟩, hB4⟩; have HB4 := Aside0.mk (HB3.out.trans (hB4.mono HB3.out.size)); have BK4 := Aside0.mk ((hB4.block g1 (blk_lt BK3.out)).trans BK3.out); have HRA0 := Aside0.mk hra0; simp only [svcV]; clear hB4 hra0 c21 c22))
  clear d1 d2 d3 d4 HF
  obtain ⟨g5, hg5⟩ : ∃ g, w4.heap.size = g := ⟨_, rfl⟩
  have HLI0 := Aside0.mk (l4_start HB4.out.size HB4.out BK4.out HRA0.out : L4 W (w4.alloc (.cells (svcC s0 A0 n0 c0) 30)) g1 w4.heap.size e u s0 A0 n0 c0 (.slice none 0 0) [])
  have HN0 := Aside0.mk (n4_start e)
  rw [hg5] at HLI0
  simp only [hg5]
  go_loopg [6, 7, 8] (l1.length + 1) (fun kq v6 v7 v8 w' => ∃ (i : Nat) (s : S) (A : Option Addr) (n c : Nat) (vb : Value) (bg : List Int) (now : Int), v8 = .int .i64 (i : Int) ∧ v6 = .int .i64 now ∧ vb = v7 ∧ Aside0 (i + kq = l1.length + 1 ∧ i ≤ l1.length) ∧ Aside0 (kq ≤ l1.length + 1) ∧ Aside0 (L4 W w' g1 g5 e u s A n c vb bg) ∧ Aside0 (N4 e s bg now i))
  case atStart => exact ⟨0, s0, A0, n0, c0, _, [], 0, rfl, rfl, rfl, ⟨by omega, by omega⟩, ⟨Nat.le_refl _⟩, HLI0, HN0⟩
  case round =>
    obtain ⟨i, s, A, n, c, vb, bg, now, rfl, rfl, rfl, HI, HK1, HLI, HN4⟩ := hrel
    cases gk with
    | zero => exact absurd HI.out (by omega)
    | succ k1 =>
      clear HLI0 HN0 hg5
      by_cases c4 : i < l1.length
      case neg =>
        have c4b : decide ((i : Int) < (l1.length : Int)) = false := decide_eq_false (by omega)
        have c4c : decide (i < l1.length) = false := decide_eq_false c4
        clear c4
        obtain ⟨bu, hbu⟩ : ∃ bu : Nat, e.burst = (bu : Int) := ⟨e.burst.toNat, by have := HBD.out.1; omega⟩
        obtain ⟨iv, hiv⟩ : ∃ iv, e.ivl = iv := ⟨_, rfl⟩
        have hrow := HLI.out.row
        obtain ⟨AB, cb, hvb⟩ := own_slice hrow
        subst hvb
        have HSPC := Aside0.mk (show Sp iv bu bg by have := HN4.out.sp; rw [hiv, hbu] at this; exact this)
        have HBB := Aside0.mk (⟨by have := HBD.out.2.1; rw [hbu] at this; omega, by have := HN4.out.le; have := HR120.out; have := HI.out.2; omega, HN4.out.li.bd, by have := HN4.out.n1; have := HR120.out; have := HI.out.2; omega⟩ : bu ≤ 100 ∧ bg.length ≤ 120 ∧ (∀ x, x ∈ bg → 0 ≤ x ∧ x ≤ now) ∧ now ≤ 1815)
        have HLZ := HLI
        have HBU := Aside0.mk hbu
        have HIV := Aside0.mk hiv
        clear HLI HN4 hbu hiv hrow HST
        go_wp2
        go_loopg [16] (bg.length + 1) (fun kq v16 w' => ∃ i : Nat, v16 = .int .i64 (i : Int) ∧ Aside0 (i + kq = bg.length + 1 ∧ i ≤ bg.length) ∧ Aside0 (kq ≤ bg.length + 1) ∧ Aside0 (L4 W w' g1 g5 e u s A n c (.slice AB bg.length cb) bg))
        case atStart => exact ⟨0, rfl, ⟨by omega, by omega⟩, ⟨Nat.le_refl _⟩, HLZ⟩
        case round =>
          obtain ⟨k, rfl, HKI, HK2, HL4⟩ := hrel
          cases gk with
          | zero => exact absurd HKI.out (by omega)
          | succ k2 =>
            clear HLZ
            obtain ⟨kb, hkb⟩ : ∃ kb : Nat, kb = k + bu := ⟨_, rfl⟩
            have hwk : wrap64 ((k : Int) + (bu : Int)) = (kb : Int) := wrap_kb hkb (by have := HBB.out.1; have := HBB.out.2.1; have := HKI.out.2; omega)
            have HKB := Aside0.mk hkb
            clear hkb
            have hkp : ∀ X, Below wr.heap.size wr X → X.cell? ⟨g1, 21, none⟩ = some (.int .i64 (bu : Int)) ∧ X.cell? ⟨g1, 22, none⟩ = some (.int .i64 iv) := fun X hX => by
              have hr := l4_reads HL4.out HU.out hX
              rw [HBU.out, HIV.out] at hr
              exact ⟨hr.2.1, hr.2.2.1⟩
            obtain ⟨r21, r22⟩ := hkp wr (Below.refl _ _)
            by_cases c5 : kb < bg.length
            case neg =>
              have c5b : decide (wrap64 ((k : Int) + (bu : Int)) < (bg.length : Int)) = false := decide_eq_false (by rw [hwk]; omega)
              have c5d : decide ((kb : Int) < (bg.length : Int)) = false := decide_eq_false (by omega)
              have c5e : decide (kb < bg.length) = false := decide_eq_false c5
              clear c5
              go_wp2
              go_ret
              exact ⟨rfl, HL4.out.bel⟩
            case pos =>
              have hck : k < bg.length := by have := HKB.out; omega
              have c5b : decide (wrap64 ((k : Int) + (bu : Int)) < (bg.length : Int)) = true := decide_eq_true (by rw [hwk]; omega)
              have c5d : decide ((kb : Int) < (bg.length : Int)) = true := decide_eq_true (by omega)
              have c5e : decide (kb < bg.length) = true := decide_eq_true c5
              obtain ⟨ad, hAB, hcell⟩ := row_cells HL4.out.row (by omega : 0 < bg.length)
              subst hAB
              obtain ⟨y, hy⟩ : ∃ y, bg[k]? = some y := ⟨_, List.getElem?_eq_getElem hck⟩
              obtain ⟨z, hz⟩ : ∃ z, bg[kb]? = some z := ⟨_, List.getElem?_eq_getElem c5⟩
              have hsp := HSPC.out k y z hy (by rw [← HKB.out]; exact hz)
              have hby := HBB.out.2.2.1 y (List.mem_of_getElem? hy)
              have hbz := HBB.out.2.2.1 z (List.mem_of_getElem? hz)
              have hwz : wrap64 (z - y) = z - y := wrap_sub hby.1 hbz.1 (by have := hby.2; have := HBB.out.2.2.2; omega) (by have := hbz.2; have := HBB.out.2.2.2; omega)
              have hdz : decide (wrap64 (z - y) < iv) = false := decide_eq_false (by rw [hwz]; omega)
              have hkp2 : ∀ X, Below wr.heap.size wr X → X.cell? ⟨g1, 21, none⟩ = some (.int .i64 (bu : Int)) ∧ X.cell? ⟨g1, 22, none⟩ = some (.int .i64 iv) ∧ X.cell? (ad.add k) = some (.int .i64 y) ∧ X.cell? (ad.add kb) = some (.int .i64 z) := fun X hX => ⟨(hkp X hX).1, (hkp X hX).2, hcell k y hy X hX, hcell kb z hz X hX⟩
              have HKP := Aside0.mk hkp2
              have pk : (0 ≤ (k : Int)) = True := eq_true (by omega)
              have qk : ((k : Int) < (bg.length : Int)) = True := eq_true (by omega)
              have pkb : (0 ≤ wrap64 ((k : Int) + (bu : Int))) = True := eq_true (by rw [hwk]; omega)
              have qkb : (wrap64 ((k : Int) + (bu : Int)) < (bg.length : Int)) = True := eq_true (by rw [hwk]; omega)
              have HWK := Aside0.mk (wrap_len hck (by have := HBB.out.2.1; omega))
              have HNK := Aside0.mk (⟨by have := HKI.out.1; omega, hck⟩ : k + 1 + k2 = bg.length + 1 ∧ k < bg.length)
              clear hkp hkp2 hsp hby hbz hy hz hcell c5 hck
              go_wp2
              have hwi : IntKind.i64.wrap ((k : Int) + (bu : Int)) = (kb : Int) := by rw [wrapI]; exact hwk
              have hwj : IntKind.i64.wrap (z - y) = z - y := by rw [wrapI]; exact hwz
              have pk3 : (0 ≤ (kb : Int)) = True := eq_true (by omega)
              have qk3 : ((kb : Int) < (bg.length : Int)) = True := eq_true (by have := of_eq_true qkb; rw [hwk] at this; exact this)
              have hdz2 : decide (z - y < iv) = false := by rw [← hwz]; exact hdz
              go_region_held3 (fun w' => w'.cell? ⟨g1, 21, none⟩ = some (.int .i64 (bu : Int)) ∧ w'.cell? ⟨g1, 22, none⟩ = some (.int .i64 iv) ∧ w'.cell? (ad.add k) = some (.int .i64 y) ∧ w'.cell? (ad.add kb) = some (.int .i64 z)) (exact HKP.out _ (by repeat (first | (with_reducible first | apply pw_below_drewN | apply below_drew1) | exact Below.refl _ _))) (fail)
              all_goals go_wp2
              go_roundg k2
              case measure => have := HK2.out; omega
              case rel => exact ⟨k + 1, by rw [HWK.out], ⟨HNK.out.1, HNK.out.2⟩, ⟨by have := HK2.out; omega⟩, ⟨HL4.out.below (by repeat (first | (with_reducible first | apply pw_below_drewN | apply below_drew1) | exact Below.refl _ _))⟩⟩
      case pos =>
        have c4b : decide ((i : Int) < (l1.length : Int)) = true := decide_eq_true (by omega)
        have c4c : decide (i < l1.length) = true := decide_eq_true c4
        have p347 : 0 ≤ (i : Int) := by omega
        have q347 : (i : Int) < (l1.length : Int) := by omega
        have HN := Aside0.mk (⟨by have := HI.out.1; omega, c4⟩ : i + 1 + k1 = l1.length + 1 ∧ i < l1.length)
        have HW := Aside0.mk (wrap_len c4 hm1.out)
        have HI2 := Aside0.mk (show i < 121 by have := HR120.out; omega)
        clear c4
        obtain ⟨ad, e347, hx0, hx1, hx2, hx3, hx4⟩ := at_T38 HR1.out (i : Int) p347 q347
        cases e347
        simp only [Int.toNat_natCast] at hx0 hx1 hx2 hx3 hx4
        obtain ⟨x, hxx⟩ : ∃ x, rd_T38 l1 (i : Int) = x := ⟨_, rfl⟩
        rw [hxx] at hx0 hx1 hx2 hx3 hx4
        clear hxx
        replace hx0 := (HLI.out.bel.cell (World.block_lt_of_cell? W _ hx0)).trans hx0
        replace hx1 := (HLI.out.bel.cell (World.block_lt_of_cell? W _ hx1)).trans hx1
        replace hx2 := (HLI.out.bel.cell (World.block_lt_of_cell? W _ hx2)).trans hx2
        replace hx3 := (HLI.out.bel.cell (World.block_lt_of_cell? W _ hx3)).trans hx3
        replace hx4 := (HLI.out.bel.cell (World.block_lt_of_cell? W _ hx4)).trans hx4
        replace p347 := eq_true p347
        replace q347 := eq_true q347
        obtain ⟨⟨s2, acts, er⟩, hst⟩ : ∃ p, stepS u (inE e ⟨x.f0, x.f1, x.f2, x.f3, nextN now x.f4⟩) s = p := ⟨_, rfl⟩
        have HNX := n4_step HN4.out HI2.out hst HBD.out
        have hn : s.starts.length ≤ 100000 := HN4.out.starts (by have := HI2.out; omega)
        have HS5 := fun (X : World) (hr : RowA X (.slice A n c) s.starts) (hb : Below W.heap.size W X) => HST.out X ⟨x.f0, x.f1, x.f2, x.f3, nextN now x.f4⟩ s A n c hr hn hb
        simp only [hst] at HS5
        clear hst HST hn
        simp only [nextN] at HS5 HNX
        have HS5 := Aside0.mk HS5
        have HLE := Aside0.mk (show bg.length ≤ 200 by have := HN4.out.le; have := HI2.out; omega)
        clear HN4
        have T62 := True.intro
        have T64 := True.intro
        have T71 := True.intro
        have zc4 : (wr.alloc (.cells (inC x) 38)).cell? ⟨wr.heap.size, 4, none⟩ = some (.int .i64 x.f4) := (in_reads (blk_new wr _)).2.2.2.2
        have zcf : ∀ k, (wr.alloc (.cells (inC x) 38)).frozen? ⟨wr.heap.size, k, none⟩ = false := fun k => blk_frozen (blk_new wr _) k
        simp only [inC] at zc4 zcf
        rcases HNX with ⟨rfl, HN5⟩ | ⟨rfl, HN5, HQ⟩
        · have HN5 := Aside0.mk HN5
          go_wp2_with (first | ((with_reducible refine wpl_letter (N := 62) rfl (fun wb hwb => ?_)); clear T62; have hlb := (show Below wr.heap.size wr wb ∧ wb.heap[wr.heap.size]? = some (.cells (inC ⟨x.f0, x.f1, x.f2, x.f3, (wrap64 (now + maxI 0 (x.f4.tmod 16)))⟩) 38 (0, 0)) from by rw [hwb]; first | exact lb_mk wr x (wrap64 (now + maxI 0 (x.f4.tmod 16))) | exact lb_mk2 wr x (wrap64 (now + maxI 0 (x.f4.tmod 16)))); have HB4 := Aside0.mk (HLI.out.below hlb.1); have B9 := Aside0.mk hlb.2; have N9 := Aside0.mk (blk_lt HLI.out.b5); clear hlb hwb zc4 zcf hx0 hx1 hx2 hx3 hx4; obtain ⟨R24, rb_, ri_, k0, k1_, k2, k3, k4, k5, k6, k7⟩ := l4_reads HB4.out HU.out (Below.refl _ _); clear rb_ ri_) | ((with_reducible refine wpl_letter (N := 64) rfl (fun wc hwc => ?_)); clear T64 R24 k0 k1_ k2 k3 k4 k5 k6 k7; have hlc := (show Below wb.heap.size wb wc ∧ wc.heap[wb.heap.size]? = some (.cells (svcC s A n c) 30 (0, 0)) from by rw [hwc]; exact lc_mk wb s A n c); have HC4 := Aside0.mk (HB4.out.below hlc.1); have C9 := Aside0.mk (blk_below B9.out hlc.1); have C10 := Aside0.mk hlc.2; have N10 := Aside0.mk (blk_lt HB4.out.b5); clear hlc hwc; obtain ⟨R24, rb_, ri_, k0, k1_, k2, k3, k4, k5, k6, k7⟩ := l4_reads HC4.out HU.out (Below.refl _ _); clear rb_ ri_; obtain ⟨y0, y1, y2, y3, y4⟩ := in_reads C9.out; dsimp only at y0 y1 y2 y3 y4) | (go_at_call 18; refine (HS5.out wc HC4.out.ra HC4.out.bel).mono ?_; rintro e' w7 ⟨vs', vo', rfl, hra7, hown7, hB7, hfr7⟩; clear R24 k0 k1_ k2 k3 k4 k5 k6 k7 y0 y1 y2 y3 y4; obtain ⟨A7, n7, c7, rfl⟩ := hra7.form; obtain ⟨Ao, co, rfl⟩ := own_slice hown7; have HL6 := Aside0.mk (l6_mk HC4.out C9.out C10.out N9.out N10.out hra7 hown7 hB7 hfr7); clear hra7 hown7 hB7 hfr7) | ((with_reducible refine wpl_letter (N := 72) rfl (fun wd hwd => ?_)); clear T71; have HD := Aside0.mk (show L6 W wd g1 g5 wr.heap.size wb.heap.size w7.heap.size wc.heap.size e u ⟨x.f0, x.f1, x.f2, x.f3, (wrap64 (now + maxI 0 (x.f4.tmod 16)))⟩ s A n c vb bg s2 A7 n7 c7 (.slice Ao acts.length co) acts from by rw [hwd]; exact HL6.out); clear hwd HL6; obtain ⟨z0, z1, z2, z3, z4, z5, z6, z7⟩ := svc_reads HD.out.b11))
          go_roundg k1
          case measure => have := HK1.out; omega
          case rel => exact ⟨i + 1, s, A, n, c, vb, bg, (wrap64 (now + maxI 0 (x.f4.tmod 16))), by rw [HW.out], rfl, rfl, ⟨HN.out.1, HN.out.2⟩, ⟨by have := HK1.out; omega⟩, ⟨HD.out.l4⟩, HN5⟩
        · rcases start_cases e x s s2.sub with ⟨hb, hz9, hc⟩ | ⟨hb, hc⟩
          · rw [hb, if_pos rfl] at HN5
            have HN5 := Aside0.mk HN5
            obtain ⟨z9a, ⟨z9b, z9d⟩, z9c⟩ := hz9
            obtain ⟨i0, hi, hz0, hz1, hz2⟩ := info_parts info2
            have HM1 := Aside0.mk (show bg.length + 1 ≤ maxLen from Nat.le_trans (Nat.succ_le_succ HLE.out) (by decide))
            have HM2 := Aside0.mk (show (bg.length + 1) * 8 ≤ 140737488355328 by have := HLE.out; omega)
            clear hb HQ
            rcases hc with ⟨⟨f1, ⟨f2, m2⟩, f3⟩, ⟨f4, ⟨f5, m5⟩, f6⟩⟩ | ⟨⟨f1, ⟨f2, m2⟩, f3⟩, ⟨f4, ⟨f5, m5⟩, f6⟩, ⟨f7, ⟨f8, m8⟩, f9⟩⟩ | ⟨⟨f1, ⟨f2, m2⟩, f3⟩, ⟨f4, ⟨f5, m5⟩, f6⟩, ⟨f7, ⟨f8, m8⟩, f9⟩, ⟨f10, ⟨f11, m11⟩, f12⟩⟩ | ⟨⟨f1, ⟨f2, m2⟩, f3⟩, ⟨f4, ⟨f5, m5⟩, f6⟩, ⟨f7, ⟨f8, m8⟩, f9⟩⟩
            all_goals (
              go_wp2_with (first | ((with_reducible refine wpl_letter (N := 62) rfl (fun wb hwb => ?_)); clear T62; have hlb := (show Below wr.heap.size wr wb ∧ wb.heap[wr.heap.size]? = some (.cells (inC ⟨x.f0, x.f1, x.f2, x.f3, (wrap64 (now + maxI 0 (x.f4.tmod 16)))⟩) 38 (0, 0)) from by rw [hwb]; first | exact lb_mk wr x (wrap64 (now + maxI 0 (x.f4.tmod 16))) | exact lb_mk2 wr x (wrap64 (now + maxI 0 (x.f4.tmod 16)))); have HB4 := Aside0.mk (HLI.out.below hlb.1); have B9 := Aside0.mk hlb.2; have N9 := Aside0.mk (blk_lt HLI.out.b5); clear hlb hwb zc4 zcf hx0 hx1 hx2 hx3 hx4; obtain ⟨R24, rb_, ri_, k0, k1_, k2, k3, k4, k5, k6, k7⟩ := l4_reads HB4.out HU.out (Below.refl _ _); clear rb_ ri_) | ((with_reducible refine wpl_letter (N := 64) rfl (fun wc hwc => ?_)); clear T64 R24 k0 k1_ k2 k3 k4 k5 k6 k7; have hlc := (show Below wb.heap.size wb wc ∧ wc.heap[wb.heap.size]? = some (.cells (svcC s A n c) 30 (0, 0)) from by rw [hwc]; exact lc_mk wb s A n c); have HC4 := Aside0.mk (HB4.out.below hlc.1); have C9 := Aside0.mk (blk_below B9.out hlc.1); have C10 := Aside0.mk hlc.2; have N10 := Aside0.mk (blk_lt HB4.out.b5); clear hlc hwc; obtain ⟨R24, rb_, ri_, k0, k1_, k2, k3, k4, k5, k6, k7⟩ := l4_reads HC4.out HU.out (Below.refl _ _); clear rb_ ri_; obtain ⟨y0, y1, y2, y3, y4⟩ := in_reads C9.out; dsimp only at y0 y1 y2 y3 y4) | (go_at_call 18; refine (HS5.out wc HC4.out.ra HC4.out.bel).mono ?_; rintro e' w7 ⟨vs', vo', rfl, hra7, hown7, hB7, hfr7⟩; clear R24 k0 k1_ k2 k3 k4 k5 k6 k7 y0 y1 y2 y3 y4; obtain ⟨A7, n7, c7, rfl⟩ := hra7.form; obtain ⟨Ao, co, rfl⟩ := own_slice hown7; have HL6 := Aside0.mk (l6_mk HC4.out C9.out C10.out N9.out N10.out hra7 hown7 hB7 hfr7); clear hra7 hown7 hB7 hfr7) | ((with_reducible refine wpl_letter (N := 72) rfl (fun wd hwd => ?_)); clear T71; have HD := Aside0.mk (show L6 W wd g1 g5 wr.heap.size wb.heap.size w7.heap.size wc.heap.size e u ⟨x.f0, x.f1, x.f2, x.f3, (wrap64 (now + maxI 0 (x.f4.tmod 16)))⟩ s A n c vb bg s2 A7 n7 c7 (.slice Ao acts.length co) acts from by rw [hwd]; exact HL6.out); clear hwd HL6; obtain ⟨z0, z1, z2, z3, z4, z5, z6, z7⟩ := svc_reads HD.out.b11) | ((with_reducible refine gate_store rfl ?_); refine wpList_store_row rfl 30 _ _ rfl g5 _ rfl rfl 30 _ HD.out.l4.b5 (by kernel_rfl) rfl (by simp [Value.oneCell']) ?_; clear z0 z1 z2 z3 z4 z5 z6 z7; generalize hwe : World.setRow wd g5 _ = we; have HE : Aside0 (L7 W we g1 g5 wr.heap.size wb.heap.size e u ⟨x.f0, x.f1, x.f2, x.f3, (wrap64 (now + maxI 0 (x.f4.tmod 16)))⟩ s A n c vb bg s2 A7 n7 c7 (.slice Ao acts.length co) acts) := hwe ▸ Aside0.mk (l7_mk HD.out); clear hwe; have a0 := (in_reads HE.out.b9).1; have b0 := (svc_reads HE.out.b10).1; have c0 := (svc_reads HE.out.l4.b5).1; dsimp only at a0) | (at_builtin; refine wpList_append_lies _ rfl _ _ 28 rfl (g5 + 1) 2 i0 _ 1 8 Try.underlying28 hi hz0 hz1 hz2 rfl (by decide) _ _ _ rfl (HE.out.l4.row.alloc _) ⟨we.heap.size, 0, none⟩ 1 1 [.int .i64 (wrap64 (now + maxI 0 (x.f4.tmod 16)))] rfl rfl (cell_one_new we _ 2) (by simp [Value.oneCell']) (by decide) HM1.out HM2.out (Nat.le_trans (blk_lt HE.out.l4.b5) (World.grownBy_alloc _ _ none).size) _ rfl ?_; intro g cap w20 hown' hgrow hlies hg20; have HF4 := Aside0.mk (l4_append HE.out.l4 hown' hgrow hlies); clear hown' hgrow hlies hg20))
              go_loopg [15] 1 (fun kq v15 w' => v15 = .int .i64 0 ∧ w' = w20)
              case atStart => exact ⟨rfl, rfl⟩
              case round =>
                obtain ⟨rfl, hw20⟩ := hrel
                subst hw20
                by_cases c5 : 0 < acts.length
                all_goals (
                  first | (have c5a : ((0 : Int) < (acts.length : Int)) = True := eq_true (by omega); have c5b : decide ((0 : Int) < (acts.length : Int)) = true := decide_eq_true (by omega); have c5c : decide (0 < acts.length) = true := decide_eq_true c5; clear c5) | (have c5a : ((0 : Int) < (acts.length : Int)) = False := eq_false (by omega); have c5b : decide ((0 : Int) < (acts.length : Int)) = false := decide_eq_false (by omega); have c5c : decide (0 < acts.length) = false := decide_eq_false c5; clear c5)
                  go_wp2
                  go_roundg k1
                  case measure => have := HK1.out; omega
                  case rel => exact ⟨i + 1, s2, A7, n7, c7, _, bg ++ [(wrap64 (now + maxI 0 (x.f4.tmod 16)))], (wrap64 (now + maxI 0 (x.f4.tmod 16))), by rw [HW.out], rfl, rfl, ⟨HN.out.1, HN.out.2⟩, ⟨by have := HK1.out; omega⟩, HF4, HN5⟩))
          · rw [hb, if_neg Bool.false_ne_true] at HN5
            have HN5 := Aside0.mk HN5
            have HQ := Aside0.mk (HQ hb)
            clear hb
            rcases hc with ⟨⟨f1, ⟨f2, m2⟩, f3⟩, ⟨f4, ⟨f5, m5⟩, f6⟩, ⟨f7, ⟨f8, m8⟩, f9⟩⟩ | ⟨⟨f1, ⟨f2, m2⟩, f3⟩, ⟨f4, ⟨f5, m5⟩, f6⟩, ⟨f7, ⟨f8, m8⟩, f9⟩, ⟨f10, ⟨f11, m11⟩, f12⟩⟩ | ⟨⟨f1, ⟨f2, m2⟩, f3⟩, ⟨f4, ⟨f5, m5⟩, f6⟩, ⟨f7, ⟨f8, m8⟩, f9⟩, ⟨f10, ⟨f11, m11⟩, f12⟩, ⟨f13, ⟨f14, m14⟩, f15⟩⟩ | ⟨⟨f1, ⟨f2, m2⟩, f3⟩, ⟨f4, ⟨f5, m5⟩, f6⟩, ⟨f7, ⟨f8, m8⟩, f9⟩, ⟨f10, ⟨f11, m11⟩, f12⟩, ⟨f13, ⟨f14, m14⟩, f15⟩⟩ | ⟨⟨f1, ⟨f2, m2⟩, f3⟩, ⟨f4, ⟨f5, m5⟩, f6⟩, ⟨f7, ⟨f8, m8⟩, f9⟩, ⟨f10, ⟨f11, m11⟩, f12⟩⟩ | ⟨⟨f1, ⟨f2, m2⟩, f3⟩, ⟨f4, ⟨f5, m5⟩, f6⟩, ⟨f7, ⟨f8, m8⟩, f9⟩⟩ | ⟨⟨f1, ⟨f2, m2⟩, f3⟩, ⟨f4, ⟨f5, m5⟩, f6⟩⟩
            all_goals (
              go_wp2_with (first | ((with_reducible refine wpl_letter (N := 62) rfl (fun wb hwb => ?_)); clear T62; have hlb := (show Below wr.heap.size wr wb ∧ wb.heap[wr.heap.size]? = some (.cells (inC ⟨x.f0, x.f1, x.f2, x.f3, (wrap64 (now + maxI 0 (x.f4.tmod 16)))⟩) 38 (0, 0)) from by rw [hwb]; first | exact lb_mk wr x (wrap64 (now + maxI 0 (x.f4.tmod 16))) | exact lb_mk2 wr x (wrap64 (now + maxI 0 (x.f4.tmod 16)))); have HB4 := Aside0.mk (HLI.out.below hlb.1); have B9 := Aside0.mk hlb.2; have N9 := Aside0.mk (blk_lt HLI.out.b5); clear hlb hwb zc4 zcf hx0 hx1 hx2 hx3 hx4; obtain ⟨R24, rb_, ri_, k0, k1_, k2, k3, k4, k5, k6, k7⟩ := l4_reads HB4.out HU.out (Below.refl _ _); clear rb_ ri_) | ((with_reducible refine wpl_letter (N := 64) rfl (fun wc hwc => ?_)); clear T64 R24 k0 k1_ k2 k3 k4 k5 k6 k7; have hlc := (show Below wb.heap.size wb wc ∧ wc.heap[wb.heap.size]? = some (.cells (svcC s A n c) 30 (0, 0)) from by rw [hwc]; exact lc_mk wb s A n c); have HC4 := Aside0.mk (HB4.out.below hlc.1); have C9 := Aside0.mk (blk_below B9.out hlc.1); have C10 := Aside0.mk hlc.2; have N10 := Aside0.mk (blk_lt HB4.out.b5); clear hlc hwc; obtain ⟨R24, rb_, ri_, k0, k1_, k2, k3, k4, k5, k6, k7⟩ := l4_reads HC4.out HU.out (Below.refl _ _); clear rb_ ri_; obtain ⟨y0, y1, y2, y3, y4⟩ := in_reads C9.out; dsimp only at y0 y1 y2 y3 y4) | (go_at_call 18; refine (HS5.out wc HC4.out.ra HC4.out.bel).mono ?_; rintro e' w7 ⟨vs', vo', rfl, hra7, hown7, hB7, hfr7⟩; clear R24 k0 k1_ k2 k3 k4 k5 k6 k7 y0 y1 y2 y3 y4; obtain ⟨A7, n7, c7, rfl⟩ := hra7.form; obtain ⟨Ao, co, rfl⟩ := own_slice hown7; have HL6 := Aside0.mk (l6_mk HC4.out C9.out C10.out N9.out N10.out hra7 hown7 hB7 hfr7); clear hra7 hown7 hB7 hfr7) | ((with_reducible refine wpl_letter (N := 72) rfl (fun wd hwd => ?_)); clear T71; have HD := Aside0.mk (show L6 W wd g1 g5 wr.heap.size wb.heap.size w7.heap.size wc.heap.size e u ⟨x.f0, x.f1, x.f2, x.f3, (wrap64 (now + maxI 0 (x.f4.tmod 16)))⟩ s A n c vb bg s2 A7 n7 c7 (.slice Ao acts.length co) acts from by rw [hwd]; exact HL6.out); clear hwd HL6; obtain ⟨z0, z1, z2, z3, z4, z5, z6, z7⟩ := svc_reads HD.out.b11) | ((with_reducible refine gate_store rfl ?_); refine wpList_store_row rfl 30 _ _ rfl g5 _ rfl rfl 30 _ HD.out.l4.b5 (by kernel_rfl) rfl (by simp [Value.oneCell']) ?_; clear z0 z1 z2 z3 z4 z5 z6 z7; generalize hwe : World.setRow wd g5 _ = we; have HE : Aside0 (L7 W we g1 g5 wr.heap.size wb.heap.size e u ⟨x.f0, x.f1, x.f2, x.f3, (wrap64 (now + maxI 0 (x.f4.tmod 16)))⟩ s A n c vb bg s2 A7 n7 c7 (.slice Ao acts.length co) acts) := hwe ▸ Aside0.mk (l7_mk HD.out); clear hwe; have a0 := (in_reads HE.out.b9).1; have b0 := (svc_reads HE.out.b10).1; have c0 := (svc_reads HE.out.l4.b5).1; dsimp only at a0))
              obtain ⟨N0, hN0⟩ := HE.out.out
              obtain ⟨hal, AO, cO, hvo, hcells⟩ := acts_cells hN0
              injection hvo with hv1 hv2 hv3
              subst hv1
              have HAL := Aside0.mk (Nat.le_trans hal (by decide : maxLen ≤ 9223372036854775807))
              have HCE := Aside0.mk hcells
              clear hN0 hal hv2 hv3 hcells
              go_loopg [15] (acts.length + 1) (fun kq v15 w' => ∃ k : Nat, v15 = .int .i64 (k : Int) ∧ Aside0 (k + kq = acts.length + 1 ∧ k ≤ acts.length) ∧ Aside0 (kq ≤ acts.length + 1) ∧ w' = we)
              case atStart => exact ⟨0, rfl, ⟨by omega, by omega⟩, ⟨Nat.le_refl _⟩, rfl⟩
              case round =>
                obtain ⟨k, rfl, HKI, HK2, hwe⟩ := hrel
                subst hwe
                cases gk with
                | zero => exact absurd HKI.out (by omega)
                | succ k2 =>
                  by_cases c5 : k < acts.length
                  case neg =>
                    have c5b : decide ((k : Int) < (acts.length : Int)) = false := decide_eq_false (by omega)
                    have c5c : decide (k < acts.length) = false := decide_eq_false c5
                    clear c5
                    go_wp2
                    go_roundg k1
                    case measure => have := HK1.out; omega
                    case rel => exact ⟨i + 1, s2, A7, n7, c7, _, bg, (wrap64 (now + maxI 0 (x.f4.tmod 16))), by rw [HW.out], rfl, rfl, ⟨HN.out.1, HN.out.2⟩, ⟨by have := HK1.out; omega⟩, ⟨HE.out.l4⟩, HN5⟩
                  case pos =>
                    have c5b : decide ((k : Int) < (acts.length : Int)) = true := decide_eq_true (by omega)
                    have c5c : decide (k < acts.length) = true := decide_eq_true c5
                    obtain ⟨a, ha⟩ : ∃ a, acts[k]? = some a := ⟨_, List.getElem?_eq_getElem c5⟩
                    obtain ⟨ad2, hAo, hca⟩ := HCE.out k a ha
                    subst hAo
                    have hma := List.mem_of_getElem? ha
                    have pk : (0 ≤ (k : Int)) = True := eq_true (by omega)
                    have qk : ((k : Int) < (acts.length : Int)) = True := eq_true (by omega)
                    have HWK := Aside0.mk (wrap_len c5 HAL.out)
                    have HNK := Aside0.mk (⟨by have := HKI.out.1; omega, c5⟩ : k + 1 + k2 = acts.length + 1 ∧ k < acts.length)
                    have hcs : (Ne3 a.f0 1) ∨ (Eq3 a.f0 1 ∧ Ne3 s.sub 1) := by
                      by_cases h1 : a.f0 = 1
                      · by_cases h2 : s.sub = 1
                        · exact absurd h1 (HQ.out h2 a hma)
                        · exact .inr ⟨eq3 h1, ne3 h2⟩
                      · exact .inl (ne3 h1)
                    clear c5 ha hma
                    rcases hcs with ⟨q1, ⟨q2, m2⟩, q3⟩ | ⟨⟨q1, ⟨q2, m2⟩, q3⟩, ⟨q4, ⟨q5, m5⟩, q6⟩⟩
                    all_goals (try (exact absurd (of_eq_true f4) (of_eq_false q4)))
                    all_goals (
                      go_wp2
                      go_roundg k2
                      case measure => have := HK2.out; omega
                      case rel => exact ⟨k + 1, by rw [HWK.out], ⟨HNK.out.1, HNK.out.2⟩, ⟨by have := HK2.out; omega⟩, rfl⟩))
end Go.Proofs.Ytnoddedgkgkfhaa.Svc
