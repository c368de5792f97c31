/- ServiceStays walked. -/
import Derived.Test.YtnoddedgkgkfhaaSvcW
namespace Go.Proofs.Ytnoddedgkgkfhaa.Svc
open Go.RowKit Go.Proofs.YtnoddedgkgkfhaaW.PrintWords Go.Proofs.YtnoddedgkgkfhaaW.PrintLast
set_option linter.unusedVariables false
set_option linter.unusedSimpArgs false
/-- a whole unit read, unopened -/
def load24 (v : Value) : Sem Value := Instr.loadAt 24 v
theorem execOp_load24 (ρ : Operand → Value) (dst : Option Tmp) (x : Operand) (ty : TypeId) (pos : String) (after : Array Edge) (guard : Option (Nat × Bool)) :
    execOp ρ ⟨dst, .load 24 x, ty, pos, after, guard⟩ = (do pure (.value (← load24 (ρ x)))) := rfl
theorem load24_run {w : World} {g : Nat} {cs : Array Value} (h : w.heap[g]? = some (.cells cs 24 (0, 0))) (hi : (Try.prog.info? 24).map (·.size) = some cs.size) : (load24 (.pointer (some ⟨g, 0, none⟩))).run Try.prog w = .ok (.agg cs) w := by
  have hl := run_loadVar_row (P := Try.prog) w g 24 24 cs (0, 0) _ h Try.underlying24 rfl hi
  unfold load24
  simp only [Instr.loadAt, Instr.sureAddr, Sem.run_bind, Sem.run_pure, Result.andThen_ok, hl]
/-- the blocks of the unit and of the automaton -/
structure LI (W w' : World) (g1 g5 : Nat) (e : En) (u : U0) (s : S) (A : Option Addr) (n c : Nat) : Prop where
  b1 : w'.heap[g1]? = some (.cells #[.string u.name, .int .i64 u.kind, .int .i64 u.load, .slice u.A3 u.n3 u.c3, .slice u.A4 u.n4 u.c4, .slice u.A5 u.n5 u.c5, .slice u.A6 u.n6 u.c6, .slice u.A7 u.n7 u.c7, .slice u.A8 u.n8 u.c8, .slice u.A9 u.n9 u.c9, .bool u.plain, .int .i64 e.typ, .int .i64 e.rst, .int .i64 e.kil, .slice e.Apre e.pre.length e.cpre, .slice e.Asta e.sta.length e.csta, .slice e.Asto e.sto.length e.csto, .int .i64 e.rsec, .int .i64 e.ssec, .int .i64 e.tsec, .int .i64 e.wdog, .int .i64 e.burst, .int .i64 e.ivl, .bool e.remain, .string u.s24, .string u.s25, .int .i64 u.i26, .int .i64 u.i27, .slice u.A28 u.n28 u.c28, .slice u.A29 u.n29 u.c29, .slice u.A30 u.n30 u.c30, .string u.s31, .string u.s32] 24 (0, 0))
  b5 : w'.heap[g5]? = some (.cells #[.int .i64 s.sub, .int .i64 s.main, .int .i64 s.control, .int .i64 s.next, .slice A n c, .bool s.stopping, .int .i64 s.result, .bool s.waiting] 30 (0, 0))
  ra : RowA w' (.slice A n c) s.starts
  ne : ∀ ad, A = some ad → ad.block ≠ g5
  gd : Good e s
  bel : Below W.heap.size W w'
theorem RowA.lt {W : World} {ad : Addr} {n c : Nat} {xs : List Int} (h : RowA W (.slice (some ad) n c) xs) : ad.block < W.heap.size := by
  rcases h with ⟨h, _⟩ | ⟨ad', c', h, _, h3, _⟩
  · cases h
  · injection h with h
    injection h with h
    subst h
    exact h3
theorem li_start {W w4 : World} {g1 : Nat} {e : En} {u : U0} {uv : Value} {A0 : Option Addr} {n0 c0 : Nat} (hU : Value.agg #[.string u.name, .int .i64 u.kind, .int .i64 u.load, .slice u.A3 u.n3 u.c3, .slice u.A4 u.n4 u.c4, .slice u.A5 u.n5 u.c5, .slice u.A6 u.n6 u.c6, .slice u.A7 u.n7 u.c7, .slice u.A8 u.n8 u.c8, .slice u.A9 u.n9 u.c9, .bool u.plain, .int .i64 e.typ, .int .i64 e.rst, .int .i64 e.kil, .slice e.Apre e.pre.length e.cpre, .slice e.Asta e.sta.length e.csta, .slice e.Asto e.sto.length e.csto, .int .i64 e.rsec, .int .i64 e.ssec, .int .i64 e.tsec, .int .i64 e.wdog, .int .i64 e.burst, .int .i64 e.ivl, .bool e.remain, .string u.s24, .string u.s25, .int .i64 u.i26, .int .i64 u.i27, .slice u.A28 u.n28 u.c28, .slice u.A29 u.n29 u.c29, .slice u.A30 u.n30 u.c30, .string u.s31, .string u.s32] = uv) (hB : Below W.heap.size W w4) (hb : w4.heap[g1]? = some (.cells #[.string u.name, .int .i64 u.kind, .int .i64 u.load, .slice u.A3 u.n3 u.c3, .slice u.A4 u.n4 u.c4, .slice u.A5 u.n5 u.c5, .slice u.A6 u.n6 u.c6, .slice u.A7 u.n7 u.c7, .slice u.A8 u.n8 u.c8, .slice u.A9 u.n9 u.c9, .bool u.plain, .int .i64 e.typ, .int .i64 e.rst, .int .i64 e.kil, .slice e.Apre e.pre.length e.cpre, .slice e.Asta e.sta.length e.csta, .slice e.Asto e.sto.length e.csto, .int .i64 e.rsec, .int .i64 e.ssec, .int .i64 e.tsec, .int .i64 e.wdog, .int .i64 e.burst, .int .i64 e.ivl, .bool e.remain, .string u.s24, .string u.s25, .int .i64 u.i26, .int .i64 u.i27, .slice u.A28 u.n28 u.c28, .slice u.A29 u.n29 u.c29, .slice u.A30 u.n30 u.c30, .string u.s31, .string u.s32] 24 (0, 0))) (hr : RowA w4 (.slice A0 n0 c0) []) (hg : Good e s0) :
    LI W (w4.alloc (.cells #[.int .i64 s0.sub, .int .i64 s0.main, .int .i64 s0.control, .int .i64 s0.next, .slice A0 n0 c0, .bool s0.stopping, .int .i64 s0.result, .bool s0.waiting] 30)) g1 w4.heap.size e u s0 A0 n0 c0 :=
  ⟨blk_alloc hb _, blk_new _ _, hr.below ((Below.refl _ _).alloc (Nat.le_refl _) _), fun ad h => by subst h; exact Nat.ne_of_lt hr.lt, hg, below_alloc hB _⟩
theorem li_reads {W wr X : World} {g1 g5 : Nat} {e : En} {u : U0} {uv : Value} {s : S} {A : Option Addr} {n c : Nat} (h : LI W wr g1 g5 e u s A n c) (hU : Value.agg #[.string u.name, .int .i64 u.kind, .int .i64 u.load, .slice u.A3 u.n3 u.c3, .slice u.A4 u.n4 u.c4, .slice u.A5 u.n5 u.c5, .slice u.A6 u.n6 u.c6, .slice u.A7 u.n7 u.c7, .slice u.A8 u.n8 u.c8, .slice u.A9 u.n9 u.c9, .bool u.plain, .int .i64 e.typ, .int .i64 e.rst, .int .i64 e.kil, .slice e.Apre e.pre.length e.cpre, .slice e.Asta e.sta.length e.csta, .slice e.Asto e.sto.length e.csto, .int .i64 e.rsec, .int .i64 e.ssec, .int .i64 e.tsec, .int .i64 e.wdog, .int .i64 e.burst, .int .i64 e.ivl, .bool e.remain, .string u.s24, .string u.s25, .int .i64 u.i26, .int .i64 u.i27, .slice u.A28 u.n28 u.c28, .slice u.A29 u.n29 u.c29, .slice u.A30 u.n30 u.c30, .string u.s31, .string u.s32] = uv) (hX : Below wr.heap.size wr X) :
    (load24 (.pointer (some ⟨g1, 0, none⟩))).run Try.prog X = .ok uv X ∧ X.cell? ⟨g5, 0, none⟩ = some (.int .i64 s.sub) ∧ X.cell? ⟨g5, 1, none⟩ = some (.int .i64 s.main) ∧ X.cell? ⟨g5, 2, none⟩ = some (.int .i64 s.control) ∧ X.cell? ⟨g5, 3, none⟩ = some (.int .i64 s.next) ∧ X.cell? ⟨g5, 4, none⟩ = some (.slice A n c) ∧ X.cell? ⟨g5, 5, none⟩ = some (.bool s.stopping) ∧ X.cell? ⟨g5, 6, none⟩ = some (.int .i64 s.result) ∧ X.cell? ⟨g5, 7, none⟩ = some (.bool s.waiting) := by
  have q1 := (hX.block g1 (blk_lt h.b1)).trans h.b1
  have q5 := (hX.block g5 (blk_lt h.b5)).trans h.b5
  refine ⟨by rw [← hU]; exact load24_run q1 (by kernel_rfl), (blk_cell q5 0).trans rfl, (blk_cell q5 1).trans rfl, (blk_cell q5 2).trans rfl, (blk_cell q5 3).trans rfl, (blk_cell q5 4).trans rfl, (blk_cell q5 5).trans rfl, (blk_cell q5 6).trans rfl, (blk_cell q5 7).trans rfl⟩
structure L9 (W w9 : World) (g1 g5 g8 : Nat) (e : En) (u : U0) (s2 : S) (cs5 : Array Value) (A7 : Option Addr) (n7 c7 : Nat) : Prop where
  b1 : w9.heap[g1]? = some (.cells #[.string u.name, .int .i64 u.kind, .int .i64 u.load, .slice u.A3 u.n3 u.c3, .slice u.A4 u.n4 u.c4, .slice u.A5 u.n5 u.c5, .slice u.A6 u.n6 u.c6, .slice u.A7 u.n7 u.c7, .slice u.A8 u.n8 u.c8, .slice u.A9 u.n9 u.c9, .bool u.plain, .int .i64 e.typ, .int .i64 e.rst, .int .i64 e.kil, .slice e.Apre e.pre.length e.cpre, .slice e.Asta e.sta.length e.csta, .slice e.Asto e.sto.length e.csto, .int .i64 e.rsec, .int .i64 e.ssec, .int .i64 e.tsec, .int .i64 e.wdog, .int .i64 e.burst, .int .i64 e.ivl, .bool e.remain, .string u.s24, .string u.s25, .int .i64 u.i26, .int .i64 u.i27, .slice u.A28 u.n28 u.c28, .slice u.A29 u.n29 u.c29, .slice u.A30 u.n30 u.c30, .string u.s31, .string u.s32] 24 (0, 0))
  b5 : w9.heap[g5]? = some (.cells cs5 30 (0, 0))
  z5 : cs5.size = 8
  b8 : w9.heap[g8]? = some (.cells #[.int .i64 s2.sub, .int .i64 s2.main, .int .i64 s2.control, .int .i64 s2.next, .slice A7 n7 c7, .bool s2.stopping, .int .i64 s2.result, .bool s2.waiting] 30 (0, 0))
  ra : RowA w9 (.slice A7 n7 c7) s2.starts
  ne : ∀ ad, A7 = some ad → ad.block ≠ g5
  n1 : g1 ≠ g5
  n5 : W.heap.size ≤ g5
  bel : Below W.heap.size W w9
def eight8 (w : World) (g : Nat) (a0 a1 a2 a3 a4 a5 a6 a7 : Value) : World := ((((((((w.setCell ⟨g, 0, none⟩ a0).setCell ⟨g, 1, none⟩ a1).setCell ⟨g, 2, none⟩ a2).setCell ⟨g, 3, none⟩ a3).setCell ⟨g, 4, none⟩ a4).setCell ⟨g, 5, none⟩ a5).setCell ⟨g, 6, none⟩ a6).setCell ⟨g, 7, none⟩ a7)
theorem eight8_blk {w : World} {g : Nat} {z0 z1 z2 z3 z4 z5 z6 z7 : Value} (h : w.heap[g]? = some (.cells #[z0, z1, z2, z3, z4, z5, z6, z7] 30 (0, 0))) (a0 a1 a2 a3 a4 a5 a6 a7 : Value) : (eight8 w g a0 a1 a2 a3 a4 a5 a6 a7).heap[g]? = some (.cells #[a0, a1, a2, a3, a4, a5, a6, a7] 30 (0, 0)) := by
  have h0 := blk_put (cs' := #[a0, z1, z2, z3, z4, z5, z6, z7]) h 0 a0 rfl
  have h1 := blk_put (cs' := #[a0, a1, z2, z3, z4, z5, z6, z7]) h0 1 a1 rfl
  have h2 := blk_put (cs' := #[a0, a1, a2, z3, z4, z5, z6, z7]) h1 2 a2 rfl
  have h3 := blk_put (cs' := #[a0, a1, a2, a3, z4, z5, z6, z7]) h2 3 a3 rfl
  have h4 := blk_put (cs' := #[a0, a1, a2, a3, a4, z5, z6, z7]) h3 4 a4 rfl
  have h5 := blk_put (cs' := #[a0, a1, a2, a3, a4, a5, z6, z7]) h4 5 a5 rfl
  have h6 := blk_put (cs' := #[a0, a1, a2, a3, a4, a5, a6, z7]) h5 6 a6 rfl
  have h7 := blk_put (cs' := #[a0, a1, a2, a3, a4, a5, a6, a7]) h6 7 a7 rfl
  exact h7
theorem eight8_grown (w : World) (g : Nat) (a0 a1 a2 a3 a4 a5 a6 a7 : Value) : w.grownBy (eight8 w g a0 a1 a2 a3 a4 a5 a6 a7) (some g) := by
  unfold eight8
  exact (set_grown (set_grown (set_grown (set_grown (set_grown (set_grown (set_grown (set_grown (refl_grown w _) 0 a0) 1 a1) 2 a2) 3 a3) 4 a4) 5 a5) 6 a6) 7 a7)
theorem l9_mk {W wr w7 : World} {g1 g5 g8 : Nat} {e : En} {u : U0} {s s2 : S} {A A7 : Option Addr} {n c n7 c7 : Nat} {z0 z1 z2 z3 z4 z5 z6 z7 : Value} (h : LI W wr g1 g5 e u s A n c) (h1 : g1 ≠ g5) (h5 : W.heap.size ≤ g5) (hB : Below wr.heap.size wr w7)
    (h8 : w7.heap[g8]? = some (.cells #[z0, z1, z2, z3, z4, z5, z6, z7] 30 (0, 0))) (hg8 : wr.heap.size ≤ g8) (hra : RowA w7 (.slice A7 n7 c7) s2.starts) (hn5 : ∀ ad, A7 = some ad → ad.block ≠ g5) (hn8 : ∀ ad, A7 = some ad → ad.block ≠ g8) :
    L9 W (eight8 w7 g8 (.int .i64 s2.sub) (.int .i64 s2.main) (.int .i64 s2.control) (.int .i64 s2.next) (.slice A7 n7 c7) (.bool s2.stopping) (.int .i64 s2.result) (.bool s2.waiting)) g1 g5 g8 e u s2 #[.int .i64 s.sub, .int .i64 s.main, .int .i64 s.control, .int .i64 s.next, .slice A n c, .bool s.stopping, .int .i64 s.result, .bool s.waiting] A7 n7 c7 := by
  have hg := eight8_grown w7 g8 (.int .i64 s2.sub) (.int .i64 s2.main) (.int .i64 s2.control) (.int .i64 s2.next) (.slice A7 n7 c7) (.bool s2.stopping) (.int .i64 s2.result) (.bool s2.waiting)
  have l1 := blk_lt h.b1
  have l5 := blk_lt h.b5
  have q1 := (hB.block g1 l1).trans h.b1
  have q5 := (hB.block g5 l5).trans h.b5
  have hb := h.bel.trans (hB.mono h.bel.size)
  exact ⟨blk_grown q1 hg (fun e => by injection e with e; omega), blk_grown q5 hg (fun e => by injection e with e; omega), rfl, eight8_blk h8 _ _ _ _ _ _ _ _, hra.grown hg hn8, hn5, h1, h5, hb.grown hg hb.size (fun k e => by injection e with e; have := h.bel.size; omega)⟩
theorem l9_mk2 {W wr w7 : World} {g1 g5 : Nat} {e : En} {u : U0} {s s2 : S} {A A7 : Option Addr} {n c n7 c7 : Nat} (h : LI W wr g1 g5 e u s A n c) (h1 : g1 ≠ g5) (h5 : W.heap.size ≤ g5) (hB : Below wr.heap.size wr w7)
    (hra : RowA w7 (.slice A7 n7 c7) s2.starts) (hn5 : ∀ ad, A7 = some ad → ad.block ≠ g5) :
    L9 W (w7.alloc (.cells #[.int .i64 s2.sub, .int .i64 s2.main, .int .i64 s2.control, .int .i64 s2.next, .slice A7 n7 c7, .bool s2.stopping, .int .i64 s2.result, .bool s2.waiting] 30)) g1 g5 w7.heap.size e u s2 #[.int .i64 s.sub, .int .i64 s.main, .int .i64 s.control, .int .i64 s.next, .slice A n c, .bool s.stopping, .int .i64 s.result, .bool s.waiting] A7 n7 c7 := by
  have q1 := (hB.block g1 (blk_lt h.b1)).trans h.b1
  have q5 := (hB.block g5 (blk_lt h.b5)).trans h.b5
  have hb := h.bel.trans (hB.mono h.bel.size)
  exact ⟨blk_alloc q1 _, blk_alloc q5 _, rfl, blk_new _ _, hra.below ((Below.refl _ _).alloc (Nat.le_refl _) _), hn5, h1, h5, below_alloc hb _⟩
theorem l9_next {W w9 : World} {g1 g5 g8 : Nat} {e : En} {u : U0} {s2 : S} {cs5 : Array Value} {A7 : Option Addr} {n7 c7 : Nat} (h : L9 W w9 g1 g5 g8 e u s2 cs5 A7 n7 c7) (hgd : Good e s2) : LI W (w9.setRow g5 #[.int .i64 s2.sub, .int .i64 s2.main, .int .i64 s2.control, .int .i64 s2.next, .slice A7 n7 c7, .bool s2.stopping, .int .i64 s2.result, .bool s2.waiting]) g1 g5 e u s2 A7 n7 c7 :=
  ⟨(setRow_other w9 g5 g1 _ h.n1).trans h.b1, setRow_heap w9 g5 _ _ 30 (0, 0) h.b5, h.ra.grown (grown_row w9 g5 _) h.ne, h.ne, hgd, h.bel.grown (grown_row w9 g5 _) h.bel.size (fun k e => by injection e with e; have := h.n5; omega)⟩
theorem LI.below {W w w' : World} {g1 g5 : Nat} {e : En} {u : U0} {s : S} {A : Option Addr} {n c : Nat} (h : LI W w g1 g5 e u s A n c) (hB : Below w.heap.size w w') : LI W w' g1 g5 e u s A n c :=
  ⟨blk_below h.b1 hB, blk_below h.b5 hB, h.ra.below hB, h.ne, h.gd, h.bel.trans (hB.mono h.bel.size)⟩
theorem fresh_ne {wr W1 : World} {A A7 : Option Addr} {n7 c7 g : Nat} (hf : Fresh W1 A (.slice A7 n7 c7)) (hA : ∀ ad, A = some ad → ad.block ≠ g) (hg : g < W1.heap.size) : ∀ ad, A7 = some ad → ad.block ≠ g := fun ad h => by
  rcases hf ad n7 c7 (by rw [h]) with h2 | h2
  · omega
  · exact hA ad h2
theorem LI.lt {W w : World} {g1 g5 : Nat} {e : En} {u : U0} {s : S} {A : Option Addr} {n c : Nat} (h : LI W w g1 g5 e u s A n c) : ∀ ad, A = some ad → ad.block < w.heap.size := fun ad hA => by subst hA; exact h.ra.lt
attribute [local go_sem ↓] execOp_load24
set_option maxRecDepth 100000
set_option maxHeartbeats 1000000
theorem stays_calls {W : World} {e : En} (u : U0) (hu : e.o = mkO u) (hl : Lists W e u) (A1 : Option Addr) (c1 : Nat) (l1 : List S38) (hr1 : Kd.C k38 W A1 l1.length l1) (hsz : Try.prog.globals.size ≤ W.heap.size)
    (hp : Kd.C Kd.string W e.Apre e.pre.length e.pre ∧ Kd.C Kd.string W e.Asta e.sta.length e.sta ∧ Kd.C Kd.string W e.Asto e.sto.length e.sto) :
    Calls Try.prog 3 #[unitV e, .slice A1 l1.length c1] W fun e' W' => e' = .returned (.bool true) ∧ Below W.heap.size W W' := by
  have HK := fun (X : World) (hX : Below W.heap.size W X) => known_calls X (Nat.le_trans hsz hX.size)
  have HF := fun (X : World) (hX : Below W.heap.size W X) => few_calls (W := X) (e := e) u hu (hl.below hX) A1 c1 l1 (Kd.C_below hr1 hX)
  have HIs := fun (X : World) (s : S) (A : Option Addr) (n c : Nat) (h : RowA X (.slice A n c) s.starts) (hn : s.starts.length ≤ 100000) => is_calls (W := X) (e := e) (s := s) u hu (.slice A n c) (h.rowR hn) hn
  have HSt := fun (X : World) (x : S38) (s : S) (A : Option Addr) (n c : Nat) (hr : RowA X (.slice A n c) s.starts) (hn : s.starts.length ≤ 100000) (hb : Below W.heap.size W X) => step_calls (W := X) (e := inE e x) (s := s) u hu A n c hr hn
    ⟨Kd.C_below hp.1 hb, Kd.C_below hp.2.1 hb, Kd.C_below hp.2.2 hb⟩
  have hUV : unitV e = .agg #[.string u.name, .int .i64 u.kind, .int .i64 u.load, .slice u.A3 u.n3 u.c3, .slice u.A4 u.n4 u.c4, .slice u.A5 u.n5 u.c5, .slice u.A6 u.n6 u.c6, .slice u.A7 u.n7 u.c7, .slice u.A8 u.n8 u.c8, .slice u.A9 u.n9 u.c9, .bool u.plain, .int .i64 e.typ, .int .i64 e.rst, .int .i64 e.kil, .slice e.Apre e.pre.length e.cpre, .slice e.Asta e.sta.length e.csta, .slice e.Asto e.sto.length e.csto, .int .i64 e.rsec, .int .i64 e.ssec, .int .i64 e.tsec, .int .i64 e.wdog, .int .i64 e.burst, .int .i64 e.ivl, .bool e.remain, .string u.s24, .string u.s25, .int .i64 u.i26, .int .i64 u.i27, .slice u.A28 u.n28 u.c28, .slice u.A29 u.n29 u.c29, .slice u.A30 u.n30 u.c30, .string u.s31, .string u.s32] := by unfold unitV; simp only [hu, mkO]
  obtain ⟨uv, huv⟩ : ∃ uv, unitV e = uv := ⟨_, rfl⟩
  simp only [unitV_inE, inV_inE, svcV, huv] at HF HIs HSt
  rw [huv] at hUV ⊢
  have HU := Aside0.mk hUV.symm
  have HL := Aside0.mk hl
  have HR1 := Aside0.mk hr1
  have hm1 := Aside0.mk hr1.2.1
  clear huv hUV hl hr1 hp
  go_enter Try.func3, Try.ntmps3
  go_wp2_with (first | ((with_reducible refine gate_dst (N := 2) rfl ?_); refine box_event ?hg (N := 2) ?hd (cs := #[.string u.name, .int .i64 u.kind, .int .i64 u.load, .slice u.A3 u.n3 u.c3, .slice u.A4 u.n4 u.c4, .slice u.A5 u.n5 u.c5, .slice u.A6 u.n6 u.c6, .slice u.A7 u.n7 u.c7, .slice u.A8 u.n8 u.c8, .slice u.A9 u.n9 u.c9, .bool u.plain, .int .i64 e.typ, .int .i64 e.rst, .int .i64 e.kil, .slice e.Apre e.pre.length e.cpre, .slice e.Asta e.sta.length e.csta, .slice e.Asto e.sto.length e.csto, .int .i64 e.rsec, .int .i64 e.ssec, .int .i64 e.tsec, .int .i64 e.wdog, .int .i64 e.burst, .int .i64 e.ivl, .bool e.remain, .string u.s24, .string u.s25, .int .i64 u.i26, .int .i64 u.i27, .slice u.A28 u.n28 u.c28, .slice u.A29 u.n29 u.c29, .slice u.A30 u.n30 u.c30, .string u.s31, .string u.s32]) (t := 24) ?hr ?_; (case hd => rfl); (case hg => rfl); (case hr => have hz_ := HU.out; subst hz_; first | (go_simp; done) | (go_simp; rfl)); intro g1 hg1 w1 hb1 hB1; have HB1 := Aside0.mk hB1; have BK1 := Aside0.mk hb1; clear hg1 hb1 hB1) | (go_at_call 14; refine (HK _ HB1.out).mono ?_; rintro e' w2 ⟨rfl, hB2⟩; have HB2 := Aside0.mk (HB1.out.trans (hB2.mono HB1.out.size)); have BK2 := Aside0.mk ((hB2.block g1 (blk_lt BK1.out)).trans BK1.out); have L2 := load24_run BK2.out (by kernel_rfl); rw [HU.out] at L2; clear hB2) | (go_at_call 15; refine (HF _ HB2.out).mono ?_; rintro e' w3 ⟨⟨r, rfl, hr120⟩, hB3⟩; have HB3 := Aside0.mk (HB2.out.trans (hB3.mono HB2.out.size)); have BK3 := Aside0.mk ((hB3.block g1 (blk_lt BK2.out)).trans BK2.out); clear hB3 L2; rcases h1 : (r == 1) with _ | _; (next => (go_wp2_with (fail); go_ret; exact ⟨rfl, HB3.out⟩)); skip) | (go_at_call 16; refine (new_calls _).mono ?_; rintro e' w4 ⟨⟨A0, n0, c0, rfl, hra0⟩, hB4⟩; have HB4 := Aside0.mk (HB3.out.trans (hB4.mono HB3.out.size)); have BK4 := Aside0.mk ((hB4.block g1 (blk_lt BK3.out)).trans BK3.out); have HRA0 := Aside0.mk hra0; simp only [svcV]; clear hB4 hra0))
  obtain ⟨g5, hg5⟩ : ∃ g, w4.heap.size = g := ⟨_, rfl⟩
  have HLI0 := Aside0.mk (li_start HU.out HB4.out BK4.out HRA0.out (good_s0 e) : LI W (w4.alloc (.cells #[.int .i64 s0.sub, .int .i64 s0.main, .int .i64 s0.control, .int .i64 s0.next, .slice A0 n0 c0, .bool s0.stopping, .int .i64 s0.result, .bool s0.waiting] 30)) g1 w4.heap.size e u s0 A0 n0 c0)
  have HG5 := Aside0.mk (show W.heap.size ≤ g5 by rw [← hg5]; exact HB4.out.size)
  have HG1 := Aside0.mk (show g1 ≠ g5 by rw [← hg5]; exact Nat.ne_of_lt (blk_lt BK4.out))
  simp only [hg5] at HLI0 ⊢
  go_loopg [6] (l1.length + 1) (fun kq v6 w' => ∃ (i : Nat) (s : S) (A : Option Addr) (n c : Nat), v6 = .int .i64 (i : Int) ∧ Aside0 (i + kq = l1.length + 1 ∧ i ≤ l1.length) ∧ Aside0 (kq ≤ l1.length + 1) ∧ Aside0 (LI W w' g1 g5 e u s A n c))
  case atStart => exact ⟨0, s0, A0, n0, c0, rfl, ⟨by omega, by omega⟩, ⟨Nat.le_refl _⟩, HLI0⟩
  case round =>
    obtain ⟨i, s, A, n, c, rfl, HI, HK1, HLI⟩ := hrel
    cases gk with
    | zero => exact absurd HI.out (by omega)
    | succ k1 =>
      clear HLI0 hg5
      by_cases c4 : i < l1.length
      case neg =>
        have c4b : decide ((i : Int) < (l1.length : Int)) = false := decide_eq_false (by omega)
        have c4c : decide (i < l1.length) = false := decide_eq_false c4
        clear c4
        go_wp2
        go_ret
        exact ⟨rfl, (by with_reducible first | exact HLI.out.bel | exact pw_below_drewN HLI.out.bel _)⟩
      case pos =>
        have c4b : decide ((i : Int) < (l1.length : Int)) = true := decide_eq_true (by omega)
        have c4c : decide (i < l1.length) = true := decide_eq_true c4
        have p347 : 0 ≤ (i : Int) := by omega
        have q347 : (i : Int) < (l1.length : Int) := by omega
        have HN := Aside0.mk (⟨by have := HI.out.1; omega, c4⟩ : i + 1 + k1 = l1.length + 1 ∧ i < l1.length)
        have HW := Aside0.mk (wrap_len c4 hm1.out)
        clear c4
        obtain ⟨ad, e347, hx0, hx1, hx2, hx3, hx4⟩ := at_T38 HR1.out (i : Int) p347 q347
        cases e347
        simp only [Int.toNat_natCast] at hx0 hx1 hx2 hx3 hx4
        have hkp : ∀ X, Below wr.heap.size wr X → (load24 (.pointer (some ⟨g1, 0, none⟩))).run Try.prog X = .ok uv X ∧ X.cell? ⟨g5, 0, none⟩ = some (.int .i64 s.sub) ∧ X.cell? ⟨g5, 1, none⟩ = some (.int .i64 s.main) ∧ X.cell? ⟨g5, 2, none⟩ = some (.int .i64 s.control) ∧ X.cell? ⟨g5, 3, none⟩ = some (.int .i64 s.next) ∧ X.cell? ⟨g5, 4, none⟩ = some (.slice A n c) ∧ X.cell? ⟨g5, 5, none⟩ = some (.bool s.stopping) ∧ X.cell? ⟨g5, 6, none⟩ = some (.int .i64 s.result) ∧ X.cell? ⟨g5, 7, none⟩ = some (.bool s.waiting) ∧ X.cell? (ad.add (i * 5)) = some (.int .i64 (rd_T38 l1 (i : Int)).f0) ∧ X.cell? ⟨(ad.add (i * 5)).block, (ad.add (i * 5)).off + 1, none⟩ = some (.int .i64 (rd_T38 l1 (i : Int)).f1) ∧ X.cell? ⟨(ad.add (i * 5)).block, (ad.add (i * 5)).off + 2, none⟩ = some (.int .i64 (rd_T38 l1 (i : Int)).f2) ∧ X.cell? ⟨(ad.add (i * 5)).block, (ad.add (i * 5)).off + 3, none⟩ = some (.string (rd_T38 l1 (i : Int)).f3) ∧ X.cell? ⟨(ad.add (i * 5)).block, (ad.add (i * 5)).off + 4, none⟩ = some (.int .i64 (rd_T38 l1 (i : Int)).f4) := fun X hX => by
          have hbx := HLI.out.bel.trans (hX.mono HLI.out.bel.size)
          have hr := li_reads HLI.out HU.out hX
          exact ⟨hr.1, hr.2.1, hr.2.2.1, hr.2.2.2.1, hr.2.2.2.2.1, hr.2.2.2.2.2.1, hr.2.2.2.2.2.2.1, hr.2.2.2.2.2.2.2.1, hr.2.2.2.2.2.2.2.2, (hbx.cell (World.block_lt_of_cell? W _ hx0)).trans hx0, (hbx.cell (World.block_lt_of_cell? W _ hx1)).trans hx1, (hbx.cell (World.block_lt_of_cell? W _ hx2)).trans hx2, (hbx.cell (World.block_lt_of_cell? W _ hx3)).trans hx3, (hbx.cell (World.block_lt_of_cell? W _ hx4)).trans hx4⟩
        clear hx0 hx1 hx2 hx3 hx4
        replace p347 := eq_true p347
        replace q347 := eq_true q347
        have hn : s.starts.length ≤ 100000 := Nat.le_trans HLI.out.gd.b.st (by decide)
        have HI5 := fun (X : World) (hX : Below wr.heap.size wr X) => HIs X s A n c (HLI.out.ra.below hX) hn
        have HS5 := fun (X : World) (hX : Below wr.heap.size wr X) => HSt X (rd_T38 l1 (i : Int)) s A n c (HLI.out.ra.below hX) hn (HLI.out.bel.trans (hX.mono HLI.out.bel.size))
        have HSP := Aside0.mk (stays_plain u e (rd_T38 l1 (i : Int)) s)
        have HST0 := Aside0.mk (fun hb : isB u.kind u.load e s = false => (show stepS u (inE e (rd_T38 l1 (i : Int))) s = (s, [], 200) by unfold stepS; rw [isB_inE, if_neg (by rw [hb]; exact Bool.false_ne_true)]))
        obtain ⟨⟨s2, acts, er⟩, hst⟩ : ∃ p, stepS u (inE e (rd_T38 l1 (i : Int))) s = p := ⟨_, rfl⟩
        simp only [hst] at HS5 HSP HST0
        clear hst
        have HKP := Aside0.mk hkp
        obtain ⟨L24, k0, k1_, k2, k3, k4, k5, k6, k7, x0, x1, x2, x3, x4⟩ := hkp wr (Below.refl _ _)
        have HIS := Aside0.mk HIs
        clear hkp HIs
        cases hb : isB u.kind u.load e s with
        | false =>
          rw [hb] at HI5
          have h3 := HST0.out hb
          simp only [Prod.mk.injEq] at h3
          obtain ⟨rfl, rfl, rfl⟩ := h3
          go_wp2_with (first | (go_at_call 17; refine (HI5 _ (Below.refl _ _)).mono ?_; rintro e' w5 ⟨rfl, hB5⟩; have HB5 := Aside0.mk hB5; clear hB5 HI5))
          go_region_held3 (fun w' => (load24 (.pointer (some ⟨g1, 0, none⟩))).run Try.prog w' = .ok uv w' ∧ w'.cell? ⟨g5, 0, none⟩ = some (.int .i64 s2.sub) ∧ w'.cell? ⟨g5, 1, none⟩ = some (.int .i64 s2.main) ∧ w'.cell? ⟨g5, 2, none⟩ = some (.int .i64 s2.control) ∧ w'.cell? ⟨g5, 3, none⟩ = some (.int .i64 s2.next) ∧ w'.cell? ⟨g5, 4, none⟩ = some (.slice A n c) ∧ w'.cell? ⟨g5, 5, none⟩ = some (.bool s2.stopping) ∧ w'.cell? ⟨g5, 6, none⟩ = some (.int .i64 s2.result) ∧ w'.cell? ⟨g5, 7, none⟩ = some (.bool s2.waiting) ∧ w'.cell? (ad.add (i * 5)) = some (.int .i64 (rd_T38 l1 (i : Int)).f0) ∧ w'.cell? ⟨(ad.add (i * 5)).block, (ad.add (i * 5)).off + 1, none⟩ = some (.int .i64 (rd_T38 l1 (i : Int)).f1) ∧ w'.cell? ⟨(ad.add (i * 5)).block, (ad.add (i * 5)).off + 2, none⟩ = some (.int .i64 (rd_T38 l1 (i : Int)).f2) ∧ w'.cell? ⟨(ad.add (i * 5)).block, (ad.add (i * 5)).off + 3, none⟩ = some (.string (rd_T38 l1 (i : Int)).f3) ∧ w'.cell? ⟨(ad.add (i * 5)).block, (ad.add (i * 5)).off + 4, none⟩ = some (.int .i64 (rd_T38 l1 (i : Int)).f4)) ((exact HKP.out _ (by repeat (first | (with_reducible first | exact HB7.out | exact HB5.out | apply below_alloc | apply pw_below_drewN | apply below_drew1 | refine below_set ?_ HB7.out.size | refine below_set ?_ HB5.out.size) | exact HB5.out)))) ((go_at_call 18; refine (HS5 _ (by repeat (first | (with_reducible first | exact HB7.out | exact HB5.out | apply below_alloc | apply pw_below_drewN | apply below_drew1 | refine below_set ?_ HB7.out.size | refine below_set ?_ HB5.out.size) | exact HB5.out))).mono ?_; rintro e' w7 ⟨vs', vo', rfl, hra7, hown7, hB7, hfr7⟩; obtain ⟨A7, n7, c7, rfl⟩ := hra7.form; obtain ⟨Ao, co, rfl⟩ := own_slice hown7; have HRA7 := Aside0.mk hra7; have HFR7 := Aside0.mk hfr7; have HB7 := Aside0.mk (below_step (by repeat (first | (with_reducible first | exact HB7.out | exact HB5.out | apply below_alloc | apply pw_below_drewN | apply below_drew1 | refine below_set ?_ HB7.out.size | refine below_set ?_ HB5.out.size) | exact HB5.out)) hB7); try (have bk8 : w7.heap[w5.heap.size]? = some (.cells #[.int .i64 0, .int .i64 0, .int .i64 0, .int .i64 0, .slice none 0 0, .bool false, .int .i64 0, .bool false] 30 (0, 0)) := (hB7.block _ (blk_lt (blk_new w5.drew (.cells #[.int .i64 0, .int .i64 0, .int .i64 0, .int .i64 0, .slice none 0 0, .bool false, .int .i64 0, .bool false] 30)))).trans (blk_new w5.drew (.cells #[.int .i64 0, .int .i64 0, .int .i64 0, .int .i64 0, .slice none 0 0, .bool false, .int .i64 0, .bool false] 30)); have z0 : w7.cell? ⟨w5.heap.size, 0, none⟩ = some (.int .i64 0) := (blk_cell bk8 0).trans rfl; have z1 : w7.cell? ⟨w5.heap.size, 1, none⟩ = some (.int .i64 0) := (blk_cell bk8 1).trans rfl; have z2 : w7.cell? ⟨w5.heap.size, 2, none⟩ = some (.int .i64 0) := (blk_cell bk8 2).trans rfl; have z3 : w7.cell? ⟨w5.heap.size, 3, none⟩ = some (.int .i64 0) := (blk_cell bk8 3).trans rfl; have z4 : w7.cell? ⟨w5.heap.size, 4, none⟩ = some (.slice none 0 0) := (blk_cell bk8 4).trans rfl; have z5 : w7.cell? ⟨w5.heap.size, 5, none⟩ = some (.bool false) := (blk_cell bk8 5).trans rfl; have z6 : w7.cell? ⟨w5.heap.size, 6, none⟩ = some (.int .i64 0) := (blk_cell bk8 6).trans rfl; have z7 : w7.cell? ⟨w5.heap.size, 7, none⟩ = some (.bool false) := (blk_cell bk8 7).trans rfl; have zf : ∀ k, w7.frozen? ⟨w5.heap.size, k, none⟩ = false := fun k => blk_frozen bk8 k; clear bk8); clear hra7 hown7 hB7 hfr7))
          all_goals (go_wp2_with (fail); go_ret; exact ⟨rfl, below_step HLI.out.bel (by repeat (first | (with_reducible first | exact HB7.out | exact HB5.out | apply below_alloc | apply pw_below_drewN | apply below_drew1 | refine below_set ?_ HB7.out.size | refine below_set ?_ HB5.out.size) | exact HB5.out))⟩)
        | true =>
          rw [hb] at HI5
          go_wp2_with (first | (go_at_call 17; refine (HI5 _ (Below.refl _ _)).mono ?_; rintro e' w5 ⟨rfl, hB5⟩; have HB5 := Aside0.mk hB5; clear hB5 HI5))
          go_region_held3 (fun w' => (load24 (.pointer (some ⟨g1, 0, none⟩))).run Try.prog w' = .ok uv w' ∧ w'.cell? ⟨g5, 0, none⟩ = some (.int .i64 s.sub) ∧ w'.cell? ⟨g5, 1, none⟩ = some (.int .i64 s.main) ∧ w'.cell? ⟨g5, 2, none⟩ = some (.int .i64 s.control) ∧ w'.cell? ⟨g5, 3, none⟩ = some (.int .i64 s.next) ∧ w'.cell? ⟨g5, 4, none⟩ = some (.slice A n c) ∧ w'.cell? ⟨g5, 5, none⟩ = some (.bool s.stopping) ∧ w'.cell? ⟨g5, 6, none⟩ = some (.int .i64 s.result) ∧ w'.cell? ⟨g5, 7, none⟩ = some (.bool s.waiting) ∧ w'.cell? (ad.add (i * 5)) = some (.int .i64 (rd_T38 l1 (i : Int)).f0) ∧ w'.cell? ⟨(ad.add (i * 5)).block, (ad.add (i * 5)).off + 1, none⟩ = some (.int .i64 (rd_T38 l1 (i : Int)).f1) ∧ w'.cell? ⟨(ad.add (i * 5)).block, (ad.add (i * 5)).off + 2, none⟩ = some (.int .i64 (rd_T38 l1 (i : Int)).f2) ∧ w'.cell? ⟨(ad.add (i * 5)).block, (ad.add (i * 5)).off + 3, none⟩ = some (.string (rd_T38 l1 (i : Int)).f3) ∧ w'.cell? ⟨(ad.add (i * 5)).block, (ad.add (i * 5)).off + 4, none⟩ = some (.int .i64 (rd_T38 l1 (i : Int)).f4)) ((exact HKP.out _ (by repeat (first | (with_reducible first | exact HB7.out | exact HB5.out | apply below_alloc | apply pw_below_drewN | apply below_drew1 | refine below_set ?_ HB7.out.size | refine below_set ?_ HB5.out.size) | exact HB5.out)))) ((go_at_call 18; refine (HS5 _ (by repeat (first | (with_reducible first | exact HB7.out | exact HB5.out | apply below_alloc | apply pw_below_drewN | apply below_drew1 | refine below_set ?_ HB7.out.size | refine below_set ?_ HB5.out.size) | exact HB5.out))).mono ?_; rintro e' w7 ⟨vs', vo', rfl, hra7, hown7, hB7, hfr7⟩; obtain ⟨A7, n7, c7, rfl⟩ := hra7.form; obtain ⟨Ao, co, rfl⟩ := own_slice hown7; have HRA7 := Aside0.mk hra7; have HFR7 := Aside0.mk hfr7; have HB7 := Aside0.mk (below_step (by repeat (first | (with_reducible first | exact HB7.out | exact HB5.out | apply below_alloc | apply pw_below_drewN | apply below_drew1 | refine below_set ?_ HB7.out.size | refine below_set ?_ HB5.out.size) | exact HB5.out)) hB7); try (have bk8 : w7.heap[w5.heap.size]? = some (.cells #[.int .i64 0, .int .i64 0, .int .i64 0, .int .i64 0, .slice none 0 0, .bool false, .int .i64 0, .bool false] 30 (0, 0)) := (hB7.block _ (blk_lt (blk_new w5.drew (.cells #[.int .i64 0, .int .i64 0, .int .i64 0, .int .i64 0, .slice none 0 0, .bool false, .int .i64 0, .bool false] 30)))).trans (blk_new w5.drew (.cells #[.int .i64 0, .int .i64 0, .int .i64 0, .int .i64 0, .slice none 0 0, .bool false, .int .i64 0, .bool false] 30)); have z0 : w7.cell? ⟨w5.heap.size, 0, none⟩ = some (.int .i64 0) := (blk_cell bk8 0).trans rfl; have z1 : w7.cell? ⟨w5.heap.size, 1, none⟩ = some (.int .i64 0) := (blk_cell bk8 1).trans rfl; have z2 : w7.cell? ⟨w5.heap.size, 2, none⟩ = some (.int .i64 0) := (blk_cell bk8 2).trans rfl; have z3 : w7.cell? ⟨w5.heap.size, 3, none⟩ = some (.int .i64 0) := (blk_cell bk8 3).trans rfl; have z4 : w7.cell? ⟨w5.heap.size, 4, none⟩ = some (.slice none 0 0) := (blk_cell bk8 4).trans rfl; have z5 : w7.cell? ⟨w5.heap.size, 5, none⟩ = some (.bool false) := (blk_cell bk8 5).trans rfl; have z6 : w7.cell? ⟨w5.heap.size, 6, none⟩ = some (.int .i64 0) := (blk_cell bk8 6).trans rfl; have z7 : w7.cell? ⟨w5.heap.size, 7, none⟩ = some (.bool false) := (blk_cell bk8 7).trans rfl; have zf : ∀ k, w7.frozen? ⟨w5.heap.size, k, none⟩ = false := fun k => blk_frozen bk8 k; have BK8 := Aside0.mk bk8; clear bk8); have fr5 : ∀ k, w7.frozen? ⟨g5, k, none⟩ = false := fun k => blk_frozen ((HB7.out.block g5 (blk_lt HLI.out.b5)).trans HLI.out.b5) k; have hne7 : g5 ≠ w7.heap.size := Nat.ne_of_lt (Nat.lt_of_lt_of_le (blk_lt HLI.out.b5) HB7.out.size); have hne5 : g5 ≠ w5.heap.size := Nat.ne_of_lt (Nat.lt_of_lt_of_le (blk_lt HLI.out.b5) HB5.out.size); clear hra7 hown7 hB7 hfr7))
          all_goals (first | (
            have zf_ := zf; clear zf_
            have HL9 := Aside0.mk (l9_mk HLI.out HG1.out HG5.out HB7.out BK8.out HB5.out.size HRA7.out (fresh_ne (wr := wr) HFR7.out HLI.out.ne (Nat.lt_of_lt_of_le (blk_lt HLI.out.b5) (below_step (Below.refl _ _) (by repeat (first | (with_reducible first | exact HB5.out | apply below_alloc | apply pw_below_drewN | apply below_drew1) | exact HB5.out))).size)) (fresh_ne (wr := wr) HFR7.out (fun ad h => Nat.ne_of_lt (Nat.lt_of_lt_of_le (HLI.out.lt ad h) HB5.out.size)) (by show w5.heap.size < (Array.push _ _).size; rw [Array.size_push]; exact Nat.lt_succ_self _)))
            clear BK8
            obtain ⟨w9, hw9⟩ : ∃ w9, ((((((((w7).setCell ⟨w5.heap.size, 0, none⟩ (.int .i64 s2.sub)).setCell ⟨w5.heap.size, 1, none⟩ (.int .i64 s2.main)).setCell ⟨w5.heap.size, 2, none⟩ (.int .i64 s2.control)).setCell ⟨w5.heap.size, 3, none⟩ (.int .i64 s2.next)).setCell ⟨w5.heap.size, 4, none⟩ (.slice A7 n7 c7)).setCell ⟨w5.heap.size, 5, none⟩ (.bool s2.stopping)).setCell ⟨w5.heap.size, 6, none⟩ (.int .i64 s2.result)).setCell ⟨w5.heap.size, 7, none⟩ (.bool s2.waiting) = w9 := ⟨_, rfl⟩
            rw [hw9]
            replace HL9 := Aside0.mk (show L9 W w9 g1 g5 w5.heap.size e u s2 #[.int .i64 s.sub, .int .i64 s.main, .int .i64 s.control, .int .i64 s.next, .slice A n c, .bool s.stopping, .int .i64 s.result, .bool s.waiting] A7 n7 c7 from by rw [← hw9]; exact HL9.out)
            clear zf z0 z1 z2 z3 z4 z5 z6 z7
            generalize w5.heap.size = g8 at HL9 ⊢) | (
            have HL9 := Aside0.mk (l9_mk2 HLI.out HG1.out HG5.out HB7.out HRA7.out (fresh_ne (wr := wr) HFR7.out HLI.out.ne (Nat.lt_of_lt_of_le (blk_lt HLI.out.b5) (below_step (Below.refl _ _) (by repeat (first | (with_reducible first | exact HB5.out | apply below_alloc | apply pw_below_drewN | apply below_drew1) | exact HB5.out))).size)))
            obtain ⟨w9, hw9⟩ : ∃ w9, w7.alloc (.cells #[.int .i64 s2.sub, .int .i64 s2.main, .int .i64 s2.control, .int .i64 s2.next, .slice A7 n7 c7, .bool s2.stopping, .int .i64 s2.result, .bool s2.waiting] 30) = w9 := ⟨_, rfl⟩
            rw [hw9] at HL9 ⊢
            generalize w7.heap.size = g8 at HL9 ⊢))
          all_goals ((try clear hw9); (try clear HF); (try clear HSt); (try clear HS5); (try clear fr5); (try clear hne5); (try clear hne7); (try clear k0); (try clear k1_); (try clear k2); (try clear k3); (try clear k4); (try clear k5); (try clear k6); (try clear k7); (try clear x0); (try clear x1); (try clear x2); (try clear x3); (try clear x4); (try clear L24))
          all_goals (
            have hsp := HSP.out hb HLI.out.gd
            have HSB := Aside0.mk hsp.2
            have HGD := Aside0.mk hsp.1
            clear hsp HSP
            go_wp2_with (first | ((with_reducible refine gate_dst (N := 47) rfl ?_); refine wpList_load_row rfl 30 _ rfl g8 rfl 30 _ (0, 0) _ HL9.out.b8 Try.underlying30 rfl (by kernel_rfl) ?_) | ((with_reducible refine gate_store rfl ?_); refine wpList_store_row rfl 30 _ _ rfl g5 _ rfl rfl 30 _ HL9.out.b5 (by kernel_rfl) rfl (by simp [Value.oneCell']) ?_; generalize hw10 : World.setRow w9 g5 _ = w10; have HLJ : Aside0 (LI W w10 g1 g5 e u s2 A7 n7 c7) := hw10 ▸ Aside0.mk (l9_next HL9.out HGD.out); clear hw10; have hn2 : s2.starts.length ≤ 100000 := Nat.le_trans HGD.out.b.st (by decide); have HI6 := HIS.out w10 s2 A7 n7 c7 HLJ.out.ra hn2; rw [HSB.out] at HI6; obtain ⟨M24, m0, m1, m2, m3, m4, m5, m6, m7⟩ := li_reads HLJ.out HU.out (Below.refl _ _)) | (go_at_call 17; refine (HI6).mono ?_; rintro e' w11 ⟨rfl, hB11⟩; have HB11 := Aside0.mk hB11; have HLK := Aside0.mk (HLJ.out.below hB11); clear hB11 HI6; obtain ⟨P24, p0, p1, p2, p3, p4, p5, p6, p7⟩ := li_reads HLK.out HU.out (Below.refl _ _); have HT6 := state_calls s2 A7 n7 c7 HLK.out.ra hn2 HGD.out.s1 HGD.out.s2; simp only [svcV] at HT6) | (go_at_call 19; refine (HT6).mono ?_; rintro e' w12 ⟨⟨r, rfl⟩, hB12⟩; have HLM := Aside0.mk (HLK.out.below hB12); clear hB12 HT6; have hr0 : decide (((r + 1 : Nat) : Int) = 0) = false := decide_eq_false (by omega); have hr1 : (((r + 1 : Nat) : Int) = 0) = False := eq_false (by omega); have hr2 : (((r + 1 : Nat) : Int) == 0) = false := beq_eq_false_iff_ne.2 (by omega)))
            go_roundg k1
            case measure => have := HK1.out; omega
            case rel => exact ⟨i + 1, s2, A7, n7, c7, by rw [HW.out], ⟨HN.out.1, HN.out.2⟩, ⟨by have := HK1.out; omega⟩, HLM⟩)
end Go.Proofs.Ytnoddedgkgkfhaa.Svc
