/- The statement 'ServiceRuns' holds of the given program: whatever the input, the law's function returns true. No condition. -/
import Derived.Test.YtnoddedgkgkfhaaRows
import Derived.WalkKit
import Derived.ProofKit
import Derived.OpenShut
import Derived.ShutString
import Derived.Test.YtnoddedgkgkfhaaSvcU
import Derived.Test.YtnoddedgkgkfhaaSvcS8
namespace Go.Proofs.Ytnoddedgkgkfhaa.serviceRuns
open Go.Ev Go.Proofs.Ytnoddedgkgkfhaa.Svc Go.Proofs.YtnoddedgkgkfhaaW.PrintWords
open Go.ChangeShapes Go.WideShapes Go.ChangeAt Go.RowKit
open Go.ChangeMaps (open_string shut_string)
set_option linter.unusedVariables false
theorem own : ownKnob Try.prog.godebug = none := by kernel_rfl
theorem laidOut : laidOutB Try.prog = true := by kernel_rfl
set_option maxRecDepth 100000 in
theorem lifted (os : Os) (started : os.Started) (H : Type) (enc : TypeId × Value → H) :
    ReturnsInHanded {} Try.checked os 13 .any (Rows.serviceRunsSpec.pre6 enc Try.prog Try.f13 Rows.serviceRunsRow.domain false) (Rows.serviceRunsSpec.post enc Try.prog Try.f13 false true false false) := by
  refine of_shaped (C := Try.checked) own started (by kernel_rfl) Try.func13
    (ChangeSpec.witness6 (enc := enc) (C := Try.checked) false ⟨#[], #[.agg #[.string ⟨#[]⟩, .int .i64 0, .int .i64 0, .slice none 0 0, .slice none 0 0, .slice none 0 0, .slice none 0 0, .slice none 0 0, .slice none 0 0, .slice none 0 0, .bool false, .int .i64 0, .int .i64 0, .int .i64 0, .slice none 0 0, .slice none 0 0, .slice none 0 0, .int .i64 0, .int .i64 0, .int .i64 0, .int .i64 0, .int .i64 0, .int .i64 0, .bool false, .string ⟨#[]⟩, .string ⟨#[]⟩, .int .i64 0, .int .i64 0, .slice none 0 0, .slice none 0 0, .slice none 0 0, .string ⟨#[]⟩, .string ⟨#[]⟩], .agg #[.int .i64 0, .int .i64 0, .int .i64 0, .int .i64 0, .slice none 0 0, .bool false, .int .i64 0, .bool false], .slice none 0 0, .int .i64 0], []⟩ 8 (by kernel_rfl) (by kernel_rfl) (by kernel_rfl) (by kernel_rfl)) ?_
  intro W base args ds gs before hshape hval0 hW
  have hval : ∀ (j : Nat) t v, Try.f13.params[j]? = some t → args[j]? = some v → Value.okWide Try.prog W .any base t v := hval0
  have hW' := hW
  obtain ⟨p, q, hA0, hV, rfl, hfz, hnd⟩ := hW
  have hA : DataW.TrodAll enc Try.prog W 0 (fun _ => true) true Try.f13.params.toList args.toList ds p := hA0
  rw [Try.params13] at hA hval
  obtain ⟨v0, vs0, d0, ds0, p0, q0, hargs, rfl, rfl, h0, r0⟩ := trodAll_cons hA
  obtain ⟨v1, vs1, d1, ds1, p1, q1, rfl, rfl, rfl, h1, r1⟩ := trodAll_cons r0
  obtain ⟨v2, vs2, d2, ds2, p2, q2, rfl, rfl, rfl, h2, r2⟩ := trodAll_cons r1
  obtain ⟨v3, vs3, d3, ds3, p3, q3, rfl, rfl, rfl, h3, r3⟩ := trodAll_cons r2
  obtain ⟨rfl, rfl, rfl⟩ := trodAll_nil r3
  obtain rfl : args = #[v0, v1, v2, v3] := by cases args; simp_all
  obtain ⟨rfl, rfl⟩ := trodVars_none hV
  obtain ⟨cs0, rfl, hsz0⟩ := okWide_struct Try.underlying24 (hval 0 24 v0 rfl rfl)
  have k0 := h0
  have lt0 : ∀ x ∈ p0, x.block < W.heap.size := by obtain ⟨m, hm⟩ := k0; exact DataW.trod_lt m _ _ _ hm
  obtain ⟨u, e, hu1, hu2, hu3, hu4⟩ : ∃ (u : U0) (e : En), Value.agg cs0 = unitV e ∧ e.o = mkO u ∧ Lists W e u ∧ (Kd.C Kd.string W e.Apre e.pre.length e.pre ∧ Kd.C Kd.string W e.Asta e.sta.length e.sta ∧ Kd.C Kd.string W e.Asto e.sto.length e.sto) := by
    obtain ⟨fuel, hf⟩ := h0
    have := unit_read hf
    simpa [Value.cells] using this
  have hok1 := hval 1 30 v1 rfl rfl
  obtain ⟨cs1, rfl, hsz1⟩ := okWide_struct Try.underlying30 hok1
  have k1 := h1
  have lt1 : ∀ x ∈ p1, x.block < W.heap.size := by obtain ⟨m, hm⟩ := k1; exact DataW.trod_lt m _ _ _ hm
  obtain ⟨s, A, c, hcs1, hlc, hCs⟩ : ∃ (s : S) (A : Option Addr) (c : Nat), cs1 = svcC s A s.starts.length c ∧ s.starts.length ≤ c ∧ Kd.C (Kd.int .i64) W A s.starts.length s.starts := by
    obtain ⟨fuel, hf⟩ := h1
    have := svc_read hf
    simpa [Value.cells] using this
  have hslot := svc_slot (show Value.okWide Try.prog W .any base 30 (.agg (svcC s A s.starts.length c)) from hcs1 ▸ hok1)
  have hAA := hslot.2
  have hra : RowA W (.slice A s.starts.length c) s.starts := rowA_of hAA hslot.1 hlc hCs
  obtain ⟨a1, len1, cap1, rfl⟩ := okWide_slice Try.underlying25 (hval 2 25 v2 rfl rfl)
  have k2 := h2
  have lt2 : ∀ x ∈ p2, x.block < W.heap.size := by obtain ⟨m, hm⟩ := k2; exact DataW.trod_lt m _ _ _ hm
  obtain ⟨l1, hl1, hc1⟩ : ∃ l : List S38, len1 = l.length ∧ Kd.C k38 W a1 l.length l := by
    obtain ⟨fuel, hf⟩ := h2
    obtain ⟨A, l, c, hcs, _, hC⟩ := inputs_read hf
    simp [Value.cells] at hcs
    obtain ⟨rfl, rfl, rfl⟩ := hcs
    exact ⟨l, rfl, hC⟩
  obtain ⟨a3, rfl, rfl, rfl, w3⟩ := open_int Try.underlying3 (hval 3 3 v3 rfl rfl) h3
  subst hl1
  have hsz : Try.prog.globals.size ≤ W.heap.size := by obtain ⟨E, hE⟩ := envOf [] [] noSum [] .nil (by intro e he; simp at he); letI : Facts := ⟨[], [], noSum⟩; letI : Env := E; exact shaped_size hshape
  clear hA0 hval0
  refine (show Calls Try.prog 13 #[.agg cs0, .agg cs1, .slice a1 l1.length cap1, .int .i64 a3] W _ from hu1 ▸ hcs1 ▸ runs_calls u hu2 hu3 s A c a1 cap1 l1 a3 hc1 hsz hra hAA hu4).mono fun e W' ⟨he, bel⟩ => ?_
  subst he
  exact ⟨_, rfl, _, _, _, [], _, [], hW', trodAll_mk1 (shut_bool Try.underlying4 _), (trodAll_cons_mk (Below.trod laidOut (by kernel_rfl) (of_decide_eq_true (by kernel_rfl)) k0 bel lt0) (trodAll_cons_mk (Below.trod laidOut (by kernel_rfl) (of_decide_eq_true (by kernel_rfl)) k1 bel lt1) (trodAll_cons_mk (Below.trod laidOut (by kernel_rfl) (of_decide_eq_true (by kernel_rfl)) k2 bel lt2) (trodAll_cons_mk (shut_int Try.underlying3 w3) trodAll_mk0)))), rfl, bel.frame _, fun h => by cases h⟩

theorem over : Rows.serviceRunsRow.holds Try.pinned (OpenSpec.ofChange Rows.serviceRunsSpec) :=
  OpenClaim.holds_of_wide 13 Try.f13 rfl rfl rfl rfl rfl rfl rfl ⟨rfl, rfl, rfl, rfl, rfl⟩ rfl rfl rfl rfl rfl (by kernel_rfl) Try.func13 (by kernel_rfl)
    (of_decide_eq_true (by kernel_rfl)) (by unfold Func.isWrapper; first | (rw [if_pos (by decide +kernel)]; kernel_rfl) | (rw [if_neg (by decide +kernel)]; exact ⟨rfl, rfl⟩))
    (fun os started H enc _ => lifted os started H enc)

theorem proved : Rows.ServiceRunsSaid := over
#print axioms proved
end Go.Proofs.Ytnoddedgkgkfhaa.serviceRuns
