/- The blocks of ServiceLimits' loop. -/
import Derived.Test.YtnoddedgkgkfhaaSvcX
import Derived.Test.YtnoddedgkgkfhaaSvcY
namespace Go.Proofs.Ytnoddedgkgkfhaa.Svc
open Go.RowKit Go.Proofs.YtnoddedgkgkfhaaW.PrintWords Go.Proofs.YtnoddedgkgkfhaaW.PrintLast
set_option linter.unusedVariables false
set_option linter.unusedSimpArgs false
def unitC (e : En) (u : U0) : Array Value := #[.string u.name, .int .i64 u.kind, .int .i64 u.load, .slice u.A3 u.n3 u.c3, .slice u.A4 u.n4 u.c4, .slice u.A5 u.n5 u.c5, .slice u.A6 u.n6 u.c6, .slice u.A7 u.n7 u.c7, .slice u.A8 u.n8 u.c8, .slice u.A9 u.n9 u.c9, .bool u.plain, .int .i64 e.typ, .int .i64 e.rst, .int .i64 e.kil, .slice e.Apre e.pre.length e.cpre, .slice e.Asta e.sta.length e.csta, .slice e.Asto e.sto.length e.csto, .int .i64 e.rsec, .int .i64 e.ssec, .int .i64 e.tsec, .int .i64 e.wdog, .int .i64 e.burst, .int .i64 e.ivl, .bool e.remain, .string u.s24, .string u.s25, .int .i64 u.i26, .int .i64 u.i27, .slice u.A28 u.n28 u.c28, .slice u.A29 u.n29 u.c29, .slice u.A30 u.n30 u.c30, .string u.s31, .string u.s32]
def svcC (s : S) (A : Option Addr) (n c : Nat) : Array Value := #[.int .i64 s.sub, .int .i64 s.main, .int .i64 s.control, .int .i64 s.next, .slice A n c, .bool s.stopping, .int .i64 s.result, .bool s.waiting]
def inC (x : S38) : Array Value := #[.int .i64 x.f0, .int .i64 x.f1, .int .i64 x.f2, .string x.f3, .int .i64 x.f4]
/-- the blocks of the unit and of the automaton, the row of what has begun -/
structure L4 (W w' : World) (g1 g5 : Nat) (e : En) (u : U0) (s : S) (A : Option Addr) (n c : Nat) (vb : Value) (bg : List Int) : Prop where
  b1 : w'.heap[g1]? = some (.cells (unitC e u) 24 (0, 0))
  b5 : w'.heap[g5]? = some (.cells (svcC s A n c) 30 (0, 0))
  ra : RowA w' (.slice A n c) s.starts
  ne : ∀ ad, A = some ad → ad.block ≠ g5 ∧ vb.ownBlock ≠ some ad.block
  row : w'.ownsRow (g5 + 1) 2 1 vb bg.length (bg.map (Value.int .i64))
  n1 : g1 < g5
  n5 : W.heap.size ≤ g5
  bel : Below W.heap.size W w'
theorem L4.below {W w w' : World} {g1 g5 : Nat} {e : En} {u : U0} {s : S} {A : Option Addr} {n c : Nat} {vb : Value} {bg : List Int} (h : L4 W w g1 g5 e u s A n c vb bg) (hB : Below w.heap.size w w') : L4 W w' g1 g5 e u s A n c vb bg :=
  ⟨blk_below h.b1 hB, blk_below h.b5 hB, h.ra.below hB, h.ne, pw_own_below h.row hB, h.n1, h.n5, h.bel.trans (hB.mono h.bel.size)⟩
theorem l4_start {W w4 : World} {g1 : Nat} {e : En} {u : U0} {A0 : Option Addr} {n0 c0 : Nat} (hW : W.heap.size ≤ w4.heap.size) (hB : Below W.heap.size W w4) (hb : w4.heap[g1]? = some (.cells (unitC e u) 24 (0, 0))) (hr : RowA w4 (.slice A0 n0 c0) []) :
    L4 W (w4.alloc (.cells (svcC s0 A0 n0 c0) 30)) g1 w4.heap.size e u s0 A0 n0 c0 (.slice none 0 0) [] :=
  ⟨blk_alloc hb _, blk_new _ _, hr.below ((Below.refl _ _).alloc (Nat.le_refl _) _), fun ad h => ⟨by subst h; exact Nat.ne_of_lt hr.lt, by simp [Value.ownBlock]⟩, World.ownsRow_nil .., blk_lt hb, hW, below_alloc hB _⟩
/-- what is read of them -/
theorem l4_reads {W wr X : World} {g1 g5 : Nat} {e : En} {u : U0} {uv : Value} {s : S} {A : Option Addr} {n c : Nat} {vb : Value} {bg : List Int} (h : L4 W wr g1 g5 e u s A n c vb bg) (hU : Value.agg (unitC e u) = uv) (hX : Below wr.heap.size wr X) :
    (load24 (.pointer (some ⟨g1, 0, none⟩))).run Try.prog X = .ok uv X ∧ X.cell? ⟨g1, 21, none⟩ = some (.int .i64 e.burst) ∧ X.cell? ⟨g1, 22, none⟩ = some (.int .i64 e.ivl) ∧ X.cell? ⟨g5, 0, none⟩ = some (.int .i64 s.sub) ∧ X.cell? ⟨g5, 1, none⟩ = some (.int .i64 s.main) ∧ X.cell? ⟨g5, 2, none⟩ = some (.int .i64 s.control) ∧ X.cell? ⟨g5, 3, none⟩ = some (.int .i64 s.next) ∧ X.cell? ⟨g5, 4, none⟩ = some (.slice A n c) ∧ X.cell? ⟨g5, 5, none⟩ = some (.bool s.stopping) ∧ X.cell? ⟨g5, 6, none⟩ = some (.int .i64 s.result) ∧ X.cell? ⟨g5, 7, none⟩ = some (.bool s.waiting) := by
  have q1 := (hX.block g1 (blk_lt h.b1)).trans h.b1
  have q5 := (hX.block g5 (blk_lt h.b5)).trans h.b5
  refine ⟨by rw [← hU]; exact load24_run q1 (by kernel_rfl), (blk_cell q1 21).trans rfl, (blk_cell q1 22).trans rfl, (blk_cell q5 0).trans rfl, (blk_cell q5 1).trans rfl, (blk_cell q5 2).trans rfl, (blk_cell q5 3).trans rfl, (blk_cell q5 4).trans rfl, (blk_cell q5 5).trans rfl, (blk_cell q5 6).trans rfl, (blk_cell q5 7).trans rfl⟩
theorem svc_reads {w : World} {g : Nat} {s : S} {A : Option Addr} {n c : Nat} (h : w.heap[g]? = some (.cells (svcC s A n c) 30 (0, 0))) :
    w.cell? ⟨g, 0, none⟩ = some (.int .i64 s.sub) ∧ w.cell? ⟨g, 1, none⟩ = some (.int .i64 s.main) ∧ w.cell? ⟨g, 2, none⟩ = some (.int .i64 s.control) ∧ w.cell? ⟨g, 3, none⟩ = some (.int .i64 s.next) ∧ w.cell? ⟨g, 4, none⟩ = some (.slice A n c) ∧ w.cell? ⟨g, 5, none⟩ = some (.bool s.stopping) ∧ w.cell? ⟨g, 6, none⟩ = some (.int .i64 s.result) ∧ w.cell? ⟨g, 7, none⟩ = some (.bool s.waiting) :=
  ⟨(blk_cell h 0).trans rfl, (blk_cell h 1).trans rfl, (blk_cell h 2).trans rfl, (blk_cell h 3).trans rfl, (blk_cell h 4).trans rfl, (blk_cell h 5).trans rfl, (blk_cell h 6).trans rfl, (blk_cell h 7).trans rfl⟩
theorem in_reads {w : World} {g : Nat} {x : S38} (h : w.heap[g]? = some (.cells (inC x) 38 (0, 0))) :
    w.cell? ⟨g, 0, none⟩ = some (.int .i64 x.f0) ∧ w.cell? ⟨g, 1, none⟩ = some (.int .i64 x.f1) ∧ w.cell? ⟨g, 2, none⟩ = some (.int .i64 x.f2) ∧ w.cell? ⟨g, 3, none⟩ = some (.string x.f3) ∧ w.cell? ⟨g, 4, none⟩ = some (.int .i64 x.f4) :=
  ⟨(blk_cell h 0).trans rfl, (blk_cell h 1).trans rfl, (blk_cell h 2).trans rfl, (blk_cell h 3).trans rfl, (blk_cell h 4).trans rfl⟩
/-- the thing that is told, at its time, in a block of its own -/
theorem lb_mk (wr : World) (x : S38) (nw : Int) : Below wr.heap.size wr ((wr.alloc (.cells (inC x) 38)).setCell ⟨wr.heap.size, 4, none⟩ (.int .i64 nw)) ∧ ((wr.alloc (.cells (inC x) 38)).setCell ⟨wr.heap.size, 4, none⟩ (.int .i64 nw)).heap[wr.heap.size]? = some (.cells (inC ⟨x.f0, x.f1, x.f2, x.f3, nw⟩) 38 (0, 0)) :=
  ⟨below_set (below_alloc (Below.refl _ _) _) (Nat.le_refl _), blk_put (blk_new wr (.cells (inC x) 38)) 4 (.int .i64 nw) rfl⟩
theorem lb_mk2 (wr : World) (x : S38) (nw : Int) : Below wr.heap.size wr (wr.alloc (.cells (inC ⟨x.f0, x.f1, x.f2, x.f3, nw⟩) 38)) ∧ (wr.alloc (.cells (inC ⟨x.f0, x.f1, x.f2, x.f3, nw⟩) 38)).heap[wr.heap.size]? = some (.cells (inC ⟨x.f0, x.f1, x.f2, x.f3, nw⟩) 38 (0, 0)) :=
  ⟨below_alloc (Below.refl _ _) _, blk_new _ _⟩
theorem lc_mk (wb : World) (s : S) (A : Option Addr) (n c : Nat) : Below wb.heap.size wb (wb.alloc (.cells (svcC s A n c) 30)) ∧ (wb.alloc (.cells (svcC s A n c) 30)).heap[wb.heap.size]? = some (.cells (svcC s A n c) 30 (0, 0)) :=
  ⟨below_alloc (Below.refl _ _) _, blk_new _ _⟩
/-- behind the step: what was, what is, what is wanted -/
structure L6 (W wd : World) (g1 g5 g9 g10 g11 N : Nat) (e : En) (u : U0) (x : S38) (s : S) (A : Option Addr) (n c : Nat) (vb : Value) (bg : List Int) (s2 : S) (A7 : Option Addr) (n7 c7 : Nat) (vo : Value) (acts : List S41) : Prop where
  l4 : L4 W wd g1 g5 e u s A n c vb bg
  b9 : wd.heap[g9]? = some (.cells (inC x) 38 (0, 0))
  b10 : wd.heap[g10]? = some (.cells (svcC s A n c) 30 (0, 0))
  b11 : wd.heap[g11]? = some (.cells (svcC s2 A7 n7 c7) 30 (0, 0))
  ra : RowA wd (.slice A7 n7 c7) s2.starts
  ne : ∀ ad, A7 = some ad → ad.block ≠ g5 ∧ vb.ownBlock ≠ some ad.block
  n9 : g5 < g9
  n10 : g5 < g10
  nN : g5 < N
  out : wd.ownsRow N 41 6 vo acts.length (acts.flatMap cellsA)
theorem l6_mk {W wc w7 : World} {g1 g5 g9 g10 : Nat} {e : En} {u : U0} {x : S38} {s : S} {A : Option Addr} {n c : Nat} {vb : Value} {bg : List Int} {s2 : S} {A7 : Option Addr} {n7 c7 : Nat} {vo : Value} {acts : List S41}
    (h4 : L4 W wc g1 g5 e u s A n c vb bg) (h9 : wc.heap[g9]? = some (.cells (inC x) 38 (0, 0))) (h10 : wc.heap[g10]? = some (.cells (svcC s A n c) 30 (0, 0))) (n9 : g5 < g9) (n10 : g5 < g10)
    (hra : RowA w7 (.slice A7 n7 c7) s2.starts) (hown : w7.ownsRow wc.heap.size 41 6 vo acts.length (acts.flatMap cellsA)) (hB : Below wc.heap.size wc w7) (hf : Fresh wc A (.slice A7 n7 c7)) :
    L6 W (w7.alloc (.cells (svcC s2 A7 n7 c7) 30)) g1 g5 g9 g10 w7.heap.size wc.heap.size e u x s A n c vb bg s2 A7 n7 c7 vo acts := by
  have hB2 := below_alloc hB (.cells (svcC s2 A7 n7 c7) 30)
  have hB3 : Below w7.heap.size w7 (w7.alloc (.cells (svcC s2 A7 n7 c7) 30)) := (Below.refl _ _).alloc (Nat.le_refl _) _
  refine ⟨h4.below hB2, blk_below h9 hB2, blk_below h10 hB2, blk_new _ _, hra.below hB3, fun ad h => ?_, n9, n10, blk_lt h4.b5, pw_own_below hown hB3⟩
  have h5 := blk_lt h4.b5
  rcases hf ad n7 c7 (by rw [h]) with h2 | h2
  · exact ⟨by omega, fun e => by have := (h4.row.lt _ e).2; omega⟩
  · exact h4.ne ad h2
/-- the automaton is the new one -/
structure L7 (W we : World) (g1 g5 g9 g10 : Nat) (e : En) (u : U0) (x : S38) (s : S) (A : Option Addr) (n c : Nat) (vb : Value) (bg : List Int) (s2 : S) (A7 : Option Addr) (n7 c7 : Nat) (vo : Value) (acts : List S41) : Prop where
  l4 : L4 W we g1 g5 e u s2 A7 n7 c7 vb bg
  b9 : we.heap[g9]? = some (.cells (inC x) 38 (0, 0))
  b10 : we.heap[g10]? = some (.cells (svcC s A n c) 30 (0, 0))
  out : ∃ N, we.ownsRow N 41 6 vo acts.length (acts.flatMap cellsA)
theorem l7_mk {W wd : World} {g1 g5 g9 g10 g11 N : Nat} {e : En} {u : U0} {x : S38} {s : S} {A : Option Addr} {n c : Nat} {vb : Value} {bg : List Int} {s2 : S} {A7 : Option Addr} {n7 c7 : Nat} {vo : Value} {acts : List S41}
    (h : L6 W wd g1 g5 g9 g10 g11 N e u x s A n c vb bg s2 A7 n7 c7 vo acts) : L7 W (wd.setRow g5 (svcC s2 A7 n7 c7)) g1 g5 g9 g10 e u x s A n c vb bg s2 A7 n7 c7 vo acts := by
  have hg := grown_row wd g5 (svcC s2 A7 n7 c7)
  have n1 := h.l4.n1
  have n9 := h.n9
  have n10 := h.n10
  have nN := h.nN
  exact ⟨⟨(setRow_other wd g5 g1 _ (by omega)).trans h.l4.b1, setRow_heap wd g5 _ _ 30 (0, 0) h.l4.b5, h.ra.grown hg (fun ad ha => (h.ne ad ha).1), h.ne, h.l4.row.kept hg (.inr (fun e => by have := (h.l4.row.lt g5 e).1; omega)), n1, h.l4.n5, h.l4.bel.grown hg h.l4.bel.size (fun k e => by injection e with e; have := h.l4.n5; omega)⟩,
    (setRow_other wd g5 g9 _ (by omega)).trans h.b9, (setRow_other wd g5 g10 _ (by omega)).trans h.b10, N, h.out.kept hg (.inr (fun e => by have := (h.out.lt g5 e).1; omega))⟩
theorem L7.below {W w w' : World} {g1 g5 g9 g10 : Nat} {e : En} {u : U0} {x : S38} {s : S} {A : Option Addr} {n c : Nat} {vb : Value} {bg : List Int} {s2 : S} {A7 : Option Addr} {n7 c7 : Nat} {vo : Value} {acts : List S41}
    (h : L7 W w g1 g5 g9 g10 e u x s A n c vb bg s2 A7 n7 c7 vo acts) (hB : Below w.heap.size w w') : L7 W w' g1 g5 g9 g10 e u x s A n c vb bg s2 A7 n7 c7 vo acts := by
  obtain ⟨N, hN⟩ := h.out
  exact ⟨h.l4.below hB, blk_below h.b9 hB, blk_below h.b10 hB, N, pw_own_below hN hB⟩
/-- the bounds of the unit, decided -/
theorem bounds_cases (b i : Int) : (decide (b < 1) = true) ∨ (decide (b < 1) = false ∧ decide (100 < b) = true) ∨ (decide (b < 1) = false ∧ decide (100 < b) = false ∧ decide (i < 1) = true) ∨ (decide (b < 1) = false ∧ decide (100 < b) = false ∧ decide (i < 1) = false ∧ decide (1073741824 < i) = true) ∨
    (decide (b < 1) = false ∧ decide (100 < b) = false ∧ decide (i < 1) = false ∧ decide (1073741824 < i) = false) := by
  simp only [decide_eq_true_eq, decide_eq_false_iff_not]
  omega
theorem bounds_in {b i : Int} (h1 : decide (b < 1) = false) (h2 : decide (100 < b) = false) (h3 : decide (i < 1) = false) (h4 : decide (1073741824 < i) = false) : 1 ≤ b ∧ b ≤ 100 ∧ 1 ≤ i ∧ i ≤ 1073741824 := by
  simp only [decide_eq_false_iff_not] at h1 h2 h3 h4
  omega
def maxI (x y : Int) : Int := if x < y then y else x
theorem max2J (k k' : IntKind) (x y : Int) : Builtin.max2 (.int k x) (.int k' y) = pure (.int k (maxI x y)) := max2I k k' x y
def nextN (now x : Int) : Int := wrap64 (now + maxI 0 (x.tmod 16))
theorem nextN_le {now x : Int} {i : Nat} (h0 : 0 ≤ now) (h1 : now ≤ 15 * (i : Int)) (hi : i < 121) : now ≤ nextN now x ∧ nextN now x ≤ 15 * ((i + 1 : Nat) : Int) ∧ nextN now x ≤ 1000000 := by
  have ht : x.tmod 16 < 16 := Int.tmod_lt_of_pos x (by decide)
  unfold nextN maxI
  generalize x.tmod 16 = y at ht ⊢
  have hw : wrap64 (now + (if (0 : Int) < y then y else 0)) = now + (if (0 : Int) < y then y else 0) := by
    unfold wrap64
    split <;> omega
  rw [hw]
  split <;> omega
/-- what the loop keeps of the numbers -/
structure N4 (e : En) (s : S) (bg : List Int) (now : Int) (i : Nat) : Prop where
  li : LimI e.ivl now bg s.starts
  sp : Sp e.ivl e.burst.toNat bg
  le : bg.length ≤ i
  n0 : 0 ≤ now
  n1 : now ≤ 15 * (i : Int)
theorem n4_start (e : En) : N4 e s0 [] 0 0 := ⟨⟨⟨[], rfl, fun x h => by cases h⟩, List.Pairwise.nil, fun x h => by cases h⟩, fun i x y h => by simp at h, Nat.le_refl _, Int.le_refl _, by decide⟩
theorem n4_step {u : U0} {e : En} {x : S38} {s s2 : S} {acts : List S41} {er now : Int} {bg : List Int} {i : Nat} (h : N4 e s bg now i) (hi : i < 121) (hst : stepS u (inE e ⟨x.f0, x.f1, x.f2, x.f3, nextN now x.f4⟩) s = (s2, acts, er))
    (hb : 1 ≤ e.burst ∧ e.burst ≤ 100 ∧ 1 ≤ e.ivl ∧ e.ivl ≤ 1073741824) :
    (er = 200 ∧ N4 e s bg (nextN now x.f4) (i + 1)) ∨ (er = 0 ∧ N4 e s2 (if (tellsB (inE e x) s && s2.sub != 9) = true then bg ++ [nextN now x.f4] else bg) (nextN now x.f4) (i + 1) ∧ ((tellsB (inE e x) s && s2.sub != 9) = false → s.sub = 1 → ∀ a, a ∈ acts → a.f0 ≠ 1)) := by
  obtain ⟨q1, q2, q3⟩ := nextN_le (x := x.f4) h.n0 h.n1 hi
  rcases lim_step hst h.li h.sp q1 q3 (by show 0 ≤ nextN now x.f4; have := h.n0; omega) hb.1 hb.2.1 hb.2.2.1 hb.2.2.2 with ⟨h1, h2⟩ | ⟨h1, h2, h3, h4⟩
  · exact .inl ⟨h1, h2, h.sp, Nat.le_succ_of_le h.le, by have := h.n0; omega, q2⟩
  · refine .inr ⟨h1, ⟨h2, h3, ?_, by have := h.n0; omega, q2⟩, h4⟩
    have := h.le
    split
    · rw [List.length_append, List.length_singleton]; omega
    · omega
theorem N4.starts {e : En} {s : S} {bg : List Int} {now : Int} {i : Nat} (h : N4 e s bg now i) (hi : i ≤ 121) : s.starts.length ≤ 100000 := by
  have := h.li.starts.1
  have := h.le
  omega
theorem RowA.grownO {W W' : World} {A : Option Addr} {n c : Nat} {row : Option Nat} {xs : List Int} (h : RowA W (.slice A n c) xs) (hg : W.grownBy W' row) (hn : ∀ ad, A = some ad → row ≠ some ad.block) : RowA W' (.slice A n c) xs := by
  rcases h with h | ⟨ad, c', h1, h2, h3, h4⟩
  · exact .inl h
  · refine .inr ⟨ad, c', h1, h2, Nat.lt_of_lt_of_le h3 hg.size, fun j u hj => hg.cell (h4 j u hj) ?_⟩
    rw [block_add]
    intro e
    injection h1 with h1
    exact hn ad h1 e.symm
theorem l4_append {W we w20 : World} {g1 g5 : Nat} {e : En} {u : U0} {s : S} {A : Option Addr} {n c : Nat} {vb : Value} {bg : List Int} (h : L4 W we g1 g5 e u s A n c vb bg) {o : Obj} {g cap : Nat} {nw : Int}
    (hown : w20.ownsRow (g5 + 1) 2 1 (.slice (some ⟨g, 0, none⟩) (bg.length + 1) cap) (bg.length + 1) (bg.map (Value.int .i64) ++ [.int .i64 nw])) (hgrow : (we.alloc o).grownBy w20 vb.ownBlock) (hl : vb.ownBlock = some g ∨ g = (we.alloc o).heap.size) :
    L4 W w20 g1 g5 e u s A n c (.slice (some ⟨g, 0, none⟩) (bg.length + 1) cap) (bg ++ [nw]) := by
  have hA := h.below ((Below.refl _ _).alloc (Nat.le_refl _) o)
  have n1 := h.n1
  refine ⟨blk_grown hA.b1 hgrow (fun e => by have := (h.row.lt g1 e.symm).1; omega), blk_grown hA.b5 hgrow (fun e => by have := (h.row.lt g5 e.symm).1; omega), hA.ra.grownO hgrow (fun ad ha => (h.ne ad ha).2), fun ad ha => ⟨(h.ne ad ha).1, fun e => ?_⟩, ?_, n1, h.n5, hA.bel.grown hgrow hA.bel.size (fun k e => by have := (h.row.lt k e).1; have := h.n5; omega)⟩
  · have hg : g = ad.block := Option.some.inj e
    rcases hl with hl | hl
    · exact (h.ne ad ha).2 (by rw [hl, hg])
    · subst ha
      have := hA.ra.lt
      omega
  · rw [List.length_append, List.length_singleton, List.map_append]
    exact hown
theorem flat_get : ∀ (l : List S41) (k : Nat) (a : S41), l[k]? = some a → (l.flatMap cellsA)[k * 6]? = some (.int .i64 a.f0) := by
  intro l
  induction l with
  | nil => intro k a h; simp at h
  | cons b l ih =>
    intro k a h
    rw [List.flatMap_cons]
    cases k with
    | zero =>
      obtain rfl : b = a := by simpa using h
      rfl
    | succ k =>
      have h2 := ih k a (by simpa using h)
      rw [List.getElem?_append_right (by show (cellsA b).length ≤ _; simp only [cellsA, List.length_cons, List.length_nil]; omega)]
      have e : (k + 1) * 6 - (cellsA b).length = k * 6 := by simp only [cellsA, List.length_cons, List.length_nil]; omega
      rw [e]
      exact h2
theorem acts_cells {W : World} {N : Nat} {vo : Value} {acts : List S41} (h : W.ownsRow N 41 6 vo acts.length (acts.flatMap cellsA)) : acts.length ≤ maxLen ∧ ∃ A c, vo = .slice A acts.length c ∧ ∀ k a, acts[k]? = some a → ∃ ad, A = some ad ∧ W.cell? (ad.add (k * 6)) = some (.int .i64 a.f0) := by
  have h1 := h
  rcases h.2 with ⟨h2, h3⟩ | ⟨g, cap, cur, h2, h3, h4, h5, h6, h7, h8⟩
  · have hnil : acts = [] := List.length_eq_zero_iff.1 h3
    subst hnil
    exact ⟨Nat.zero_le _, none, 0, h2, fun k a hk => by simp at hk⟩
  · refine ⟨Nat.le_trans h5 h6, _, _, h2, fun k a hk => ⟨⟨g, 0, none⟩, rfl, ?_⟩⟩
    subst h2
    exact h1.cells (g := g) rfl (k * 6) _ (flat_get acts k a hk)
/-- two numbers, alike or not -/
def Eq3 (x y : Int) : Prop := (x = y) = True ∧ (decide (x = y) = true ∧ (x != y) = false) ∧ (x == y) = true
def Ne3 (x y : Int) : Prop := (x = y) = False ∧ (decide (x = y) = false ∧ (x != y) = true) ∧ (x == y) = false
theorem eq3 {x y : Int} (h : x = y) : Eq3 x y := ⟨eq_true h, ⟨decide_eq_true h, by rw [bne_eq_false_iff_eq]; exact h⟩, by rw [beq_iff_eq]; exact h⟩
theorem ne3 {x y : Int} (h : x ≠ y) : Ne3 x y := ⟨eq_false h, ⟨decide_eq_false h, by rw [bne_iff_ne]; exact h⟩, beq_eq_false_iff_ne.2 h⟩
/-- whether a start is told, as the law asks -/
theorem start_cases (e : En) (x : S38) (s : S) (sc : Int) : ((tellsB (inE e x) s && sc != 9) = true ∧ Ne3 sc 9 ∧ ((Eq3 x.f0 1 ∧ Eq3 s.sub 1) ∨ (Eq3 x.f0 1 ∧ Ne3 s.sub 1 ∧ Eq3 s.sub 9) ∨ (Eq3 x.f0 1 ∧ Ne3 s.sub 1 ∧ Ne3 s.sub 9 ∧ Eq3 s.sub 10) ∨ (Ne3 x.f0 1 ∧ Eq3 x.f0 5 ∧ Eq3 s.sub 10))) ∨
    ((tellsB (inE e x) s && sc != 9) = false ∧ ((Eq3 x.f0 1 ∧ Eq3 s.sub 1 ∧ Eq3 sc 9) ∨ (Eq3 x.f0 1 ∧ Ne3 s.sub 1 ∧ Eq3 s.sub 9 ∧ Eq3 sc 9) ∨ (Eq3 x.f0 1 ∧ Ne3 s.sub 1 ∧ Ne3 s.sub 9 ∧ Eq3 s.sub 10 ∧ Eq3 sc 9) ∨ (Eq3 x.f0 1 ∧ Ne3 s.sub 1 ∧ Ne3 s.sub 9 ∧ Ne3 s.sub 10 ∧ Ne3 x.f0 5) ∨ (Ne3 x.f0 1 ∧ Eq3 x.f0 5 ∧ Eq3 s.sub 10 ∧ Eq3 sc 9) ∨ (Ne3 x.f0 1 ∧ Eq3 x.f0 5 ∧ Ne3 s.sub 10) ∨ (Ne3 x.f0 1 ∧ Ne3 x.f0 5))) := by
  have ht : tellsB (inE e x) s = (x.f0 == 1 && (s.sub == 1 || s.sub == 9 || s.sub == 10) || x.f0 == 5 && s.sub == 10) := rfl
  by_cases a : x.f0 = 1
  · by_cases b : s.sub = 1
    · by_cases d : sc = 9
      · exact .inr ⟨by rw [ht]; simp [a, b, d], .inl ⟨eq3 a, eq3 b, eq3 d⟩⟩
      · exact .inl ⟨by rw [ht]; simp [a, b, d], ne3 d, .inl ⟨eq3 a, eq3 b⟩⟩
    · by_cases b9 : s.sub = 9
      · by_cases d : sc = 9
        · exact .inr ⟨by rw [ht]; simp [a, b9, d], .inr (.inl ⟨eq3 a, ne3 b, eq3 b9, eq3 d⟩)⟩
        · exact .inl ⟨by rw [ht]; simp [a, b9, d], ne3 d, .inr (.inl ⟨eq3 a, ne3 b, eq3 b9⟩)⟩
      · by_cases b10 : s.sub = 10
        · by_cases d : sc = 9
          · exact .inr ⟨by rw [ht]; simp [a, b10, d], .inr (.inr (.inl ⟨eq3 a, ne3 b, ne3 b9, eq3 b10, eq3 d⟩))⟩
          · exact .inl ⟨by rw [ht]; simp [a, b10, d], ne3 d, .inr (.inr (.inl ⟨eq3 a, ne3 b, ne3 b9, eq3 b10⟩))⟩
        · exact .inr ⟨by rw [ht]; simp [a, b, b9, b10], .inr (.inr (.inr (.inl ⟨eq3 a, ne3 b, ne3 b9, ne3 b10, ne3 (by omega)⟩)))⟩
  · by_cases a5 : x.f0 = 5
    · by_cases b10 : s.sub = 10
      · by_cases d : sc = 9
        · exact .inr ⟨by rw [ht]; simp [a5, b10, d], .inr (.inr (.inr (.inr (.inl ⟨ne3 a, eq3 a5, eq3 b10, eq3 d⟩))))⟩
        · exact .inl ⟨by rw [ht]; simp [a5, b10, d], ne3 d, .inr (.inr (.inr ⟨ne3 a, eq3 a5, eq3 b10⟩))⟩
      · exact .inr ⟨by rw [ht]; simp [a5, b10], .inr (.inr (.inr (.inr (.inr (.inl ⟨ne3 a, eq3 a5, ne3 b10⟩)))))⟩
    · exact .inr ⟨by rw [ht]; simp [a, a5], .inr (.inr (.inr (.inr (.inr (.inr ⟨ne3 a, ne3 a5⟩)))))⟩
end Go.Proofs.Ytnoddedgkgkfhaa.Svc
