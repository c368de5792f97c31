/- The inputs handed to service.Run: closures. -/
import Derived.Test.YtnoddedgkgkfhaaSvcS5
namespace Go.Proofs.Ytnoddedgkgkfhaa.Svc
open Go.RowKit Go.Shelf Go.Proofs.YtnoddedgkgkfhaaW.PrintWords Go.Proofs.YtnoddedgkgkfhaaW.PrintLast
set_option linter.unusedVariables false
set_option linter.unusedSimpArgs false
set_option maxRecDepth 100000
set_option maxHeartbeats 2000000
theorem inputs_calls (A1 : Option Addr) (n1 c1 : Nat) (W : World) : Calls Try.prog 25 #[.slice A1 n1 c1] W fun e W' => ∃ gi, e = .returned (.func (.func 36) #[] #[.pointer (some ⟨gi, 0, none⟩)]) ∧ W'.heap[gi]? = some (.cells #[.slice A1 n1 c1] 25 (0, 0)) ∧ W.heap.size ≤ gi ∧ Below W.heap.size W W' := by
  go_enter Try.func25, Try.ntmps25
  go_wp2
  go_ret
  exact ⟨_, rfl, blk_new _ _, Nat.le_refl _, below_alloc (Below.refl _ _) _⟩
theorem run_makes {W : World} {e : En} {u : U0} {uv : Value} (hU : Value.agg #[.string u.name, .int .i64 u.kind, .int .i64 u.load, .slice u.A3 u.n3 u.c3, .slice u.A4 u.n4 u.c4, .slice u.A5 u.n5 u.c5, .slice u.A6 u.n6 u.c6, .slice u.A7 u.n7 u.c7, .slice u.A8 u.n8 u.c8, .slice u.A9 u.n9 u.c9, .bool u.plain, .int .i64 e.typ, .int .i64 e.rst, .int .i64 e.kil, .slice e.Apre e.pre.length e.cpre, .slice e.Asta e.sta.length e.csta, .slice e.Asto e.sto.length e.csto, .int .i64 e.rsec, .int .i64 e.ssec, .int .i64 e.tsec, .int .i64 e.wdog, .int .i64 e.burst, .int .i64 e.ivl, .bool e.remain, .string u.s24, .string u.s25, .int .i64 u.i26, .int .i64 u.i27, .slice u.A28 u.n28 u.c28, .slice u.A29 u.n29 u.c29, .slice u.A30 u.n30 u.c30, .string u.s31, .string u.s32] = uv) (s : S) (A : Option Addr) (n c gi : Nat) :
    Calls Try.prog 24 #[uv, .agg (svcC s A n c), .func (.func 36) #[] #[.pointer (some ⟨gi, 0, none⟩)]] W fun e' W' => ∃ ru rs ri, e' = .returned (.func (.func 35) #[] #[.pointer (some ⟨rs, 0, none⟩), .pointer (some ⟨ri, 0, none⟩), .pointer (some ⟨ru, 0, none⟩)]) ∧
      W'.heap[ru]? = some (.cells (unitC e u) 24 (0, 0)) ∧ W'.heap[rs]? = some (.cells (svcC s A n c) 30 (0, 0)) ∧ W'.heap[ri]? = some (.cells #[.func (.func 36) #[] #[.pointer (some ⟨gi, 0, none⟩)]] 61 (0, 0)) ∧ W.heap.size ≤ ru ∧ Below W.heap.size W W' := by
  have HU := Aside0.mk hU
  clear hU
  unfold svcC
  go_enter Try.func24, Try.ntmps24
  go_wp2_with (first | ((with_reducible refine gate_dst (N := 3) rfl ?_); refine box_event ?hg (N := 3) ?hd (cs := #[.string u.name, .int .i64 u.kind, .int .i64 u.load, .slice u.A3 u.n3 u.c3, .slice u.A4 u.n4 u.c4, .slice u.A5 u.n5 u.c5, .slice u.A6 u.n6 u.c6, .slice u.A7 u.n7 u.c7, .slice u.A8 u.n8 u.c8, .slice u.A9 u.n9 u.c9, .bool u.plain, .int .i64 e.typ, .int .i64 e.rst, .int .i64 e.kil, .slice e.Apre e.pre.length e.cpre, .slice e.Asta e.sta.length e.csta, .slice e.Asto e.sto.length e.csto, .int .i64 e.rsec, .int .i64 e.ssec, .int .i64 e.tsec, .int .i64 e.wdog, .int .i64 e.burst, .int .i64 e.ivl, .bool e.remain, .string u.s24, .string u.s25, .int .i64 u.i26, .int .i64 u.i27, .slice u.A28 u.n28 u.c28, .slice u.A29 u.n29 u.c29, .slice u.A30 u.n30 u.c30, .string u.s31, .string u.s32]) (t := 24) ?hr ?_; (case hd => rfl); (case hg => rfl); (case hr => have hz_ := HU.out; subst hz_; first | (go_simp; done) | (go_simp; rfl)); intro ru hru w1 hb1 hB1; have HB1 := Aside0.mk hB1; have BK1 := Aside0.mk hb1; have HG1 := Aside0.mk hru; clear hru hb1 hB1) | ((with_reducible refine gate_dst (N := 4) rfl ?_); refine box_event ?hg (N := 4) ?hd (cs := #[.int .i64 s.sub, .int .i64 s.main, .int .i64 s.control, .int .i64 s.next, .slice A n c, .bool s.stopping, .int .i64 s.result, .bool s.waiting]) (t := 30) ?hr ?_; (case hd => rfl); (case hg => rfl); (case hr => first | (go_simp; done) | (go_simp; rfl)); intro rs hrs w2 hb2 hB2; have HB2 := Aside0.mk (below_step HB1.out hB2); have BK2 := Aside0.mk hb2; have BK1 := Aside0.mk (blk_below BK1.out hB2); have HG2 := Aside0.mk hrs; clear hrs hb2 hB2) | ((with_reducible refine gate_dst (N := 5) rfl ?_); refine box_event ?hg (N := 5) ?hd (cs := #[.func (.func 36) #[] #[.pointer (some ⟨gi, 0, none⟩)]]) (t := 61) ?hr ?_; (case hd => rfl); (case hg => rfl); (case hr => first | (go_simp; done) | (go_simp; rfl)); intro ri hri w3 hb3 hB3; have HB3 := Aside0.mk (below_step HB2.out hB3); have BK3 := Aside0.mk hb3; have BK1 := Aside0.mk (blk_below BK1.out hB3); have BK2 := Aside0.mk (blk_below BK2.out hB3); have HG3 := Aside0.mk hri; clear hri hb3 hB3))
  go_ret
  exact ⟨ru, rs, ri, rfl, BK1.out, BK2.out, BK3.out, by have := HG1.out; omega, HB3.out⟩
end Go.Proofs.Ytnoddedgkgkfhaa.Svc
