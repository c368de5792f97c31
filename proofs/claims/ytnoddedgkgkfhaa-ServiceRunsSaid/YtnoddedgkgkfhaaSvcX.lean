/- ServiceStays walked. -/
import Derived.Test.YtnoddedgkgkfhaaSvcW
namespace Go.Proofs.Ytnoddedgkgkfhaa.Svc
open Go.RowKit Go.Proofs.YtnoddedgkgkfhaaW.PrintWords Go.Proofs.YtnoddedgkgkfhaaW.PrintLast
set_option linter.unusedVariables false
set_option linter.unusedSimpArgs false
/-- a whole unit read, unopened -/
def load24 (v : Value) : Sem Value := Instr.loadAt 24 v
theorem execOp_load24 (ρ : Operand → Value) (dst : Option Tmp) (x : Operand) (ty : TypeId) (pos : String) (after : Array Edge) (guard : Option (Nat × Bool)) :
    execOp ρ ⟨dst, .load 24 x, ty, pos, after, guard⟩ = (do pure (.value (← load24 (ρ x)))) := rfl
theorem load24_run {w : World} {g : Nat} {cs : Array Value} (h : w.heap[g]? = some (.cells cs 24 (0, 0))) (hi : (Try.prog.info? 24).map (·.size) = some cs.size) : (load24 (.pointer (some ⟨g, 0, none⟩))).run Try.prog w = .ok (.agg cs) w := by
  have hl := run_loadVar_row (P := Try.prog) w g 24 24 cs (0, 0) _ h Try.underlying24 rfl hi
  unfold load24
  simp only [Instr.loadAt, Instr.sureAddr, Sem.run_bind, Sem.run_pure, Result.andThen_ok, hl]
/-- the blocks of the unit and of the automaton -/
structure LI (W w' : World) (g1 g5 : Nat) (e : En) (u : U0) (s : S) (A : Option Addr) (n c : Nat) : Prop where
  b1 : w'.heap[g1]? = some (.cells #[.string u.name, .int .i64 u.kind, .int .i64 u.load, .slice u.A3 u.n3 u.c3, .slice u.A4 u.n4 u.c4, .slice u.A5 u.n5 u.c5, .slice u.A6 u.n6 u.c6, .slice u.A7 u.n7 u.c7, .slice u.A8 u.n8 u.c8, .slice u.A9 u.n9 u.c9, .bool u.plain, .int .i64 e.typ, .int .i64 e.rst, .int .i64 e.kil, .slice e.Apre e.pre.length e.cpre, .slice e.Asta e.sta.length e.csta, .slice e.Asto e.sto.length e.csto, .int .i64 e.rsec, .int .i64 e.ssec, .int .i64 e.tsec, .int .i64 e.wdog, .int .i64 e.burst, .int .i64 e.ivl, .bool e.remain, .string u.s24, .string u.s25, .int .i64 u.i26, .int .i64 u.i27, .slice u.A28 u.n28 u.c28, .slice u.A29 u.n29 u.c29, .slice u.A30 u.n30 u.c30, .string u.s31, .string u.s32] 24 (0, 0))
  b5 : w'.heap[g5]? = some (.cells #[.int .i64 s.sub, .int .i64 s.main, .int .i64 s.control, .int .i64 s.next, .slice A n c, .bool s.stopping, .int .i64 s.result, .bool s.waiting] 30 (0, 0))
  ra : RowA w' (.slice A n c) s.starts
  ne : ∀ ad, A = some ad → ad.block ≠ g5
  gd : Good e s
  bel : Below W.heap.size W w'
theorem RowA.lt {W : World} {ad : Addr} {n c : Nat} {xs : List Int} (h : RowA W (.slice (some ad) n c) xs) : ad.block < W.heap.size := by
  rcases h with ⟨h, _⟩ | ⟨ad', c', h, _, h3, _⟩
  · cases h
  · injection h with h
    injection h with h
    subst h
    exact h3
structure L9 (W w9 : World) (g1 g5 g8 : Nat) (e : En) (u : U0) (s2 : S) (cs5 : Array Value) (A7 : Option Addr) (n7 c7 : Nat) : Prop where
  b1 : w9.heap[g1]? = some (.cells #[.string u.name, .int .i64 u.kind, .int .i64 u.load, .slice u.A3 u.n3 u.c3, .slice u.A4 u.n4 u.c4, .slice u.A5 u.n5 u.c5, .slice u.A6 u.n6 u.c6, .slice u.A7 u.n7 u.c7, .slice u.A8 u.n8 u.c8, .slice u.A9 u.n9 u.c9, .bool u.plain, .int .i64 e.typ, .int .i64 e.rst, .int .i64 e.kil, .slice e.Apre e.pre.length e.cpre, .slice e.Asta e.sta.length e.csta, .slice e.Asto e.sto.length e.csto, .int .i64 e.rsec, .int .i64 e.ssec, .int .i64 e.tsec, .int .i64 e.wdog, .int .i64 e.burst, .int .i64 e.ivl, .bool e.remain, .string u.s24, .string u.s25, .int .i64 u.i26, .int .i64 u.i27, .slice u.A28 u.n28 u.c28, .slice u.A29 u.n29 u.c29, .slice u.A30 u.n30 u.c30, .string u.s31, .string u.s32] 24 (0, 0))
  b5 : w9.heap[g5]? = some (.cells cs5 30 (0, 0))
  z5 : cs5.size = 8
  b8 : w9.heap[g8]? = some (.cells #[.int .i64 s2.sub, .int .i64 s2.main, .int .i64 s2.control, .int .i64 s2.next, .slice A7 n7 c7, .bool s2.stopping, .int .i64 s2.result, .bool s2.waiting] 30 (0, 0))
  ra : RowA w9 (.slice A7 n7 c7) s2.starts
  ne : ∀ ad, A7 = some ad → ad.block ≠ g5
  n1 : g1 ≠ g5
  n5 : W.heap.size ≤ g5
  bel : Below W.heap.size W w9
def eight8 (w : World) (g : Nat) (a0 a1 a2 a3 a4 a5 a6 a7 : Value) : World := ((((((((w.setCell ⟨g, 0, none⟩ a0).setCell ⟨g, 1, none⟩ a1).setCell ⟨g, 2, none⟩ a2).setCell ⟨g, 3, none⟩ a3).setCell ⟨g, 4, none⟩ a4).setCell ⟨g, 5, none⟩ a5).setCell ⟨g, 6, none⟩ a6).setCell ⟨g, 7, none⟩ a7)
theorem eight8_blk {w : World} {g : Nat} {z0 z1 z2 z3 z4 z5 z6 z7 : Value} (h : w.heap[g]? = some (.cells #[z0, z1, z2, z3, z4, z5, z6, z7] 30 (0, 0))) (a0 a1 a2 a3 a4 a5 a6 a7 : Value) : (eight8 w g a0 a1 a2 a3 a4 a5 a6 a7).heap[g]? = some (.cells #[a0, a1, a2, a3, a4, a5, a6, a7] 30 (0, 0)) := by
  have h0 := blk_put (cs' := #[a0, z1, z2, z3, z4, z5, z6, z7]) h 0 a0 rfl
  have h1 := blk_put (cs' := #[a0, a1, z2, z3, z4, z5, z6, z7]) h0 1 a1 rfl
  have h2 := blk_put (cs' := #[a0, a1, a2, z3, z4, z5, z6, z7]) h1 2 a2 rfl
  have h3 := blk_put (cs' := #[a0, a1, a2, a3, z4, z5, z6, z7]) h2 3 a3 rfl
  have h4 := blk_put (cs' := #[a0, a1, a2, a3, a4, z5, z6, z7]) h3 4 a4 rfl
  have h5 := blk_put (cs' := #[a0, a1, a2, a3, a4, a5, z6, z7]) h4 5 a5 rfl
  have h6 := blk_put (cs' := #[a0, a1, a2, a3, a4, a5, a6, z7]) h5 6 a6 rfl
  have h7 := blk_put (cs' := #[a0, a1, a2, a3, a4, a5, a6, a7]) h6 7 a7 rfl
  exact h7
theorem eight8_grown (w : World) (g : Nat) (a0 a1 a2 a3 a4 a5 a6 a7 : Value) : w.grownBy (eight8 w g a0 a1 a2 a3 a4 a5 a6 a7) (some g) := by
  unfold eight8
  exact (set_grown (set_grown (set_grown (set_grown (set_grown (set_grown (set_grown (set_grown (refl_grown w _) 0 a0) 1 a1) 2 a2) 3 a3) 4 a4) 5 a5) 6 a6) 7 a7)
theorem LI.below {W w w' : World} {g1 g5 : Nat} {e : En} {u : U0} {s : S} {A : Option Addr} {n c : Nat} (h : LI W w g1 g5 e u s A n c) (hB : Below w.heap.size w w') : LI W w' g1 g5 e u s A n c :=
  ⟨blk_below h.b1 hB, blk_below h.b5 hB, h.ra.below hB, h.ne, h.gd, h.bel.trans (hB.mono h.bel.size)⟩
theorem fresh_ne {wr W1 : World} {A A7 : Option Addr} {n7 c7 g : Nat} (hf : Fresh W1 A (.slice A7 n7 c7)) (hA : ∀ ad, A = some ad → ad.block ≠ g) (hg : g < W1.heap.size) : ∀ ad, A7 = some ad → ad.block ≠ g := fun ad h => by
  rcases hf ad n7 c7 (by rw [h]) with h2 | h2
  · omega
  · exact hA ad h2
theorem LI.lt {W w : World} {g1 g5 : Nat} {e : En} {u : U0} {s : S} {A : Option Addr} {n c : Nat} (h : LI W w g1 g5 e u s A n c) : ∀ ad, A = some ad → ad.block < w.heap.size := fun ad hA => by subst hA; exact h.ra.lt
attribute [local go_sem ↓] execOp_load24
set_option maxRecDepth 100000
set_option maxHeartbeats 1000000
end Go.Proofs.Ytnoddedgkgkfhaa.Svc
