/- A row of starts copied; whole structs read. -/
import Derived.Test.YtnoddedgkgkfhaaSvcL
import Derived.WalkSpells
namespace Go.Proofs.Ytnoddedgkgkfhaa.Svc
open Go.RowKit Go.Proofs.YtnoddedgkgkfhaaW.PrintWords Go.Proofs.YtnoddedgkgkfhaaW.PrintLast
attribute [local go_sem] Oper.semAt_some
set_option linter.unusedVariables false
/-- a row of numbers that is read: nil, or of an array -/
def RowA (W : World) (vs : Value) (xs : List Int) : Prop :=
  (vs = .slice none 0 0 ∧ xs = []) ∨ ∃ ad c, vs = .slice (some ad) xs.length c ∧ xs.length ≤ c ∧ ad.block < W.heap.size ∧ ∀ j u, xs[j]? = some u → W.cell? (ad.add j) = some (.int .i64 u)
theorem RowA.below {W W' : World} {vs : Value} {xs : List Int} (h : RowA W vs xs) (hb : Below W.heap.size W W') : RowA W' vs xs := by
  rcases h with h | ⟨ad, c, h1, h2, h3, h4⟩
  · exact .inl h
  · exact .inr ⟨ad, c, h1, h2, Nat.lt_of_lt_of_le h3 hb.size, fun j u hj => (hb.cell (p := ad.add j) (by rw [block_add]; exact h3)).trans (h4 j u hj)⟩
theorem RowA.rowR {W : World} {vs : Value} {xs : List Int} (h : RowA W vs xs) (hl : xs.length ≤ 100000) : RowR W vs xs := by
  rcases h with ⟨rfl, rfl⟩ | ⟨ad, c, rfl, h2, h3, h4⟩
  · exact ⟨none, 0, rfl, Nat.le_refl _, rfl, by decide, fun h => absurd h (Nat.lt_irrefl _)⟩
  · refine ⟨some ad, c, rfl, h2, rfl, by omega, fun _ => ⟨ad, rfl, fun j p hp => ⟨[.int .i64 p], rfl, rfl, fun i u hi => ?_⟩⟩⟩
    have hi0 : i = 0 := by
      have := (List.getElem?_eq_some_iff.1 hi).1
      simp at this; omega
    subst hi0
    obtain rfl : Value.int .i64 p = u := by simpa using hi
    have e2 : j * (Kd.int .i64).sz + 0 = j := by show j * 1 + 0 = j; omega
    rw [e2]
    exact h4 j p hp
set_option maxRecDepth 100000
set_option maxHeartbeats 1000000
theorem clone_calls {W : World} {vs : Value} {xs : List Int} (h : RowA W vs xs) (hl : xs.length ≤ 100000) :
    Calls Try.prog 33 #[vs] W fun e' W' => ∃ v', e' = .returned v' ∧ W'.ownsRow W.heap.size 2 1 v' xs.length (xs.map (Value.int .i64)) ∧ Below W.heap.size W W' := by
  obtain ⟨i0, hi, hz0, hz1, hz2⟩ := info_parts info2
  have hnil := fun (w : World) (a : Option Addr) (n c : Nat) => Lib.run_eql_slice_nil (P := Try.prog) w 28 2 a n c 0 0 Try.underlying28
  rcases h with ⟨rfl, rfl⟩ | ⟨ad, c, rfl, h2, h3, h4⟩
  · go_enter Try.func33, Try.ntmps33
    go_wp2
    go_ret
    exact ⟨_, rfl, World.ownsRow_nil .., Below.refl _ _⟩
  · have hlen1 : 0 + xs.length ≤ maxLen := by unfold maxLen; omega
    have hlen2 : (0 + xs.length) * 8 ≤ 140737488355328 := by omega
    have hown := World.ownsRow_made (base := W.heap.size) (e := 2) (size := 1) W #[] 0 (Nat.le_refl _) (by decide) rfl
    have hn : ∀ j u, (xs.map (Value.int .i64))[j]? = some u → (W.alloc (.cells #[] 2)).cell? (ad.add j) = some u := by
      intro j u hj
      rw [List.getElem?_map] at hj
      obtain ⟨x, hx, rfl⟩ := Option.map_eq_some_iff.1 hj
      exact (((Below.refl _ W).alloc (Nat.le_refl _) _).cell (p := ad.add j) (by rw [block_add]; exact h3)).trans (h4 j x hx)
    have HN := Aside0.mk hn
    clear hn h4
    go_enter Try.func33, Try.ntmps33
    go_wp2_with (at_builtin; refine wpList_append_own _ rfl _ _ 28 rfl W.heap.size 2 i0 (.int .i64 0) 1 8 Try.underlying28 hi hz0 hz1 hz2 rfl (by decide) _ _ _ rfl hown ad xs.length c (xs.map (Value.int .i64)) rfl (by simp) HN.out (by intro u hu; obtain ⟨x, _, rfl⟩ := List.mem_map.1 hu; rfl) hlen1 hlen2 (World.grownBy_alloc _ _ none).size ?_; intro v' w2 hown' hgrow _)
    go_ret
    refine ⟨_, rfl, ?_, ?_⟩
    · rw [Nat.zero_add, List.nil_append] at hown'
      exact hown'
    · exact ((Below.refl _ W).alloc (Nat.le_refl _) _).grown hgrow (World.grownBy_alloc _ _ none).size (fun k e => (hown.lt k e).1)
end Go.Proofs.Ytnoddedgkgkfhaa.Svc
