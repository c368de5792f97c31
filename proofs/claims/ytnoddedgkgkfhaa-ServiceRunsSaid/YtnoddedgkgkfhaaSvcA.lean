/- What an automaton wants: appended to its row. -/
import Derived.Test.YtnoddedgkgkfhaaSvcO
namespace Go.Proofs.Ytnoddedgkgkfhaa.Svc
open Go.RowKit Go.Proofs.YtnoddedgkgkfhaaW.PrintWords Go.Proofs.YtnoddedgkgkfhaaW.PrintLast
attribute [local go_sem] Oper.semAt_some
set_option linter.unusedVariables false
def add (s : S) (a : S41) : S := { s with out := s.out ++ [a] }
set_option maxRecDepth 100000 in
theorem wants_calls (w0 W : World) (b : Nat) (e : En) (s : S) (hI : Inv w0 W b e s) (ad : Addr) (a : S41) (ha : ∀ j u, (cellsA a)[j]? = some u → W.cell? (ad.add j) = some u) (hn : s.out.length ≤ 1000) :
    Calls Try.prog 67 #[.pointer (some ⟨b, 0, none⟩), .slice (some ad) 1 1] W fun e' W' => e' = .returned (.tuple #[]) ∧ Inv w0 W' b e (add s a) := by
  have hI0 := hI
  obtain ⟨vs, vo, h1, h2, h3, h4⟩ := hI
  have hc : W.cell? ⟨b, 46, none⟩ = some vo := (blk_cell h1 46).trans rfl
  have hfr : W.frozen? ⟨b, 46, none⟩ = false := by simp [World.frozen?, h1]
  have hlt := blk_lt h1
  have hne : some b ≠ vo.ownBlock := fun e => by have := (h2.lt b e.symm).1; omega
  obtain ⟨i0, hi, hz0, hz1, hz2⟩ := info_parts info41
  have hm1 : s.out.length + 1 ≤ maxLen := by unfold maxLen; omega
  have hm2 : (s.out.length + 1) * 56 ≤ 140737488355328 := by omega
  go_enter Try.func67, Try.ntmps67
  go_wp2_with (at_builtin; refine wpList_append_lies _ rfl _ _ 33 rfl (b + 1) 41 i0 _ 6 56 Try.underlying33 hi hz0 hz1 hz2 rfl (by decide) _ _ _ rfl h2 ad 1 1 (cellsA a) rfl rfl ha (by simp [cellsA, Value.oneCell']) (by decide) hm1 hm2 hlt _ rfl ?_; intro g cap w2 hown' hgrow hlies hg2; have hc2 := hgrow.cell hc hne; have hf2 : w2.frozen? ⟨b, 46, none⟩ = false := (World.frozen?_of_block (hgrow.block b hlt hne)).trans hfr)
  first | go_end0 | ((try simp only [Exit.inBlock, Exit.then]); refine bodyPost_ret (results_none rfl _ _ _) rfl ?_)
  obtain ⟨v', hv'⟩ : ∃ v', Value.slice (some ⟨g, 0, none⟩) (s.out.length + 1) cap = v' := ⟨_, rfl⟩
  rw [hv'] at hown' ⊢
  refine ⟨rfl, vs, v', ?_, ?_, ?_, ?_⟩
  · have := blk_set (blk_grown h1 hgrow hne) 46 v'
    exact this
  · have hl : (s.out ++ [a]).flatMap cellsA = s.out.flatMap cellsA ++ cellsA a := by simp
    show World.ownsRow _ (b + 1) 41 6 v' (s.out ++ [a]).length ((s.out ++ [a]).flatMap cellsA)
    rw [hl, List.length_append, List.length_singleton]
    refine hown'.kept (grown_set w2 ⟨b, 46, none⟩ v') (.inr ?_)
    intro e2
    have := (hown'.lt b e2).1
    omega
  · have h5 : RowI w2 b v' vs s.starts := h3.moved hgrow (by
      intro k hk
      rw [← hv'] at hk
      have hk2 : g = k := Option.some.inj hk
      subst hk2
      exact hlies)
    exact h5.grown (grown_set w2 ⟨b, 46, none⟩ v') (fun k e => .inl (Option.some.inj e).symm)
  · exact (h4.grown hgrow (Nat.le_of_lt hlt) (fun k e => by have := (h2.lt k e).1; omega)).grown (grown_set w2 ⟨b, 46, none⟩ v') (Nat.le_trans (Nat.le_of_lt hlt) hgrow.size) (fun k e => Nat.le_of_eq (Option.some.inj e))
end Go.Proofs.Ytnoddedgkgkfhaa.Svc
