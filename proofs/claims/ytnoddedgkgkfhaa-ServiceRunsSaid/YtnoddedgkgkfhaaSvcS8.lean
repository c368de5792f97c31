/- The automaton opened: an input of ServiceRuns. -/
import Derived.Test.YtnoddedgkgkfhaaSvcS7
import Derived.Test.YtnoddedgkgkfhaaSvcU
import Derived.WideShapes
namespace Go.Proofs.Ytnoddedgkgkfhaa.Svc
open Go.RowKit Go.Proofs.YtnoddedgkgkfhaaW.PrintWords Go.Proofs.YtnoddedgkgkfhaaW.PrintLast Go.Proofs.YtnoddedgkgkfhaaOpn
set_option linter.unusedVariables false
set_option maxRecDepth 100000
theorem o28 : Opens Try.prog 28 (Kd.slice 2 (Kd.int .i64)) (fun _ => True) := Opens.weak (opens_slice Try.underlying28 o2 (by kernel_rfl)) (fun _ _ => trivial)
theorem o30 : Opens Try.prog 30 (Kd.pair (Kd.int .i64) (Kd.pair (Kd.int .i64) (Kd.pair (Kd.int .i64) (Kd.pair (Kd.int .i64) (Kd.pair (Kd.slice 2 (Kd.int .i64)) (Kd.pair Kd.bool (Kd.pair (Kd.int .i64) Kd.bool))))))) (fun _ => True) :=
  Opens.weak (opens_struct Try.underlying30 (opensF_cons o3 rfl (by kernel_rfl) (opensF_cons o3 rfl (by kernel_rfl) (opensF_cons o3 rfl (by kernel_rfl) (opensF_cons o3 rfl (by kernel_rfl) (opensF_cons o28 rfl (by kernel_rfl) (opensF_cons o4 rfl (by kernel_rfl) (opensF_cons o3 rfl (by kernel_rfl) (opensF_one o4 rfl (by kernel_rfl))))))))) (by kernel_rfl)) (fun _ _ => trivial)
theorem svc_read {H : Type} {enc : TypeId × Value → H} {w : World} {base : Nat} {spare : Nat → Bool} {held : Bool} {fuel : Nat} {cs : List Value} {x : DataW H × List MemPlace} (h : DataW.trod enc Try.prog w base spare held fuel 30 cs = some x) :
    ∃ (s : S) (A : Option Addr) (c : Nat), cs.toArray = svcC s A s.starts.length c ∧ s.starts.length ≤ c ∧ Kd.C (Kd.int .i64) w A s.starts.length s.starts := by
  obtain ⟨a, hK, _⟩ := o30.out _ _ _ _ _ _ _ _ _ h
  obtain ⟨a0, a1, a2, a3, a4, a5, a6, a7⟩ := a
  obtain ⟨_, _, rfl, rfl, ⟨_, _, rfl, rfl, ⟨_, _, rfl, rfl, ⟨_, _, rfl, rfl, ⟨_, _, rfl, ⟨A4, c4, rfl, l4, C4⟩, ⟨_, _, rfl, rfl, ⟨_, _, rfl, rfl, rfl⟩⟩⟩⟩⟩⟩⟩ := hK
  exact ⟨⟨a0, a1, a2, a3, a4, a5, a6, a7, []⟩, A4, c4, rfl, l4, C4⟩
theorem rowA_of {W : World} {A : Option Addr} {c : Nat} {xs : List Int} (hA : ∀ ad, A = some ad → ad.block < W.heap.size) (hc0 : A = none → c = 0) (hc : xs.length ≤ c) (hC : Kd.C (Kd.int .i64) W A xs.length xs) : RowA W (.slice A xs.length c) xs := by
  cases A with
  | none =>
    have h0 := hc0 rfl
    have hx : xs = [] := List.length_eq_zero_iff.1 (by omega)
    subst hx h0
    exact .inl ⟨rfl, rfl⟩
  | some ad =>
    refine .inr ⟨ad, c, rfl, hc, hA ad rfl, fun j u hj => ?_⟩
    have hlt : j < xs.length := (List.getElem?_eq_some_iff.1 hj).1
    obtain ⟨ad', e1, h1⟩ := hC.2.2 (by omega)
    injection e1 with e1
    subst e1
    obtain ⟨cs, h2, h3, h4⟩ := h1 j u hj
    have h5 : cs = [.int .i64 u] := h3
    subst h5
    have := h4 0 (.int .i64 u) rfl
    have e2 : j * (Kd.int .i64).sz + 0 = j := by show j * 1 + 0 = j; omega
    rwa [e2] at this
theorem svc_slot {W : World} {base : Nat} {s : S} {A : Option Addr} {n c : Nat} (h : Value.okWide Try.prog W .any base 30 (.agg (svcC s A n c))) : (A = none → c = 0) ∧ ∀ a, A = some a → a.block < W.heap.size := by
  unfold Value.okWide at h
  rw [Try.underlying30] at h
  obtain ⟨cs, e, hs, ts, hts, _, hc⟩ := h
  injection e with e
  subst e
  have ht : Try.prog.cellTypes Try.prog.depth 30 = some [3, 3, 3, 3, 28, 4, 3, 4] := by kernel_rfl
  rw [ht] at hts
  injection hts with hts
  subst hts
  obtain ⟨t, hu, hcell⟩ := hc 4 (.slice A n c) rfl
  obtain rfl : 28 = t := Option.some.inj hu
  simp only [Cell.okWide, Try.underlying28, Cell.ok] at hcell
  refine ⟨fun hA => ?_, fun a hA => ?_⟩
  · subst hA
    cases n <;> cases c <;> first | rfl | exact absurd hcell (by simp)
  · subst hA
    obtain ⟨_, _, _, _, row, cells, hsh, _⟩ := hcell
    unfold World.shape? at hsh
    cases hb : W.heap[a.block]? with
    | none => rw [hb] at hsh; simp at hsh
    | some o => exact (Array.getElem?_eq_some_iff.1 hb).1
end Go.Proofs.Ytnoddedgkgkfhaa.Svc
