/- The blocks of ServiceLimits' loop. -/
import Derived.Test.YtnoddedgkgkfhaaSvcX
import Derived.Test.YtnoddedgkgkfhaaSvcY
namespace Go.Proofs.Ytnoddedgkgkfhaa.Svc
open Go.RowKit Go.Proofs.YtnoddedgkgkfhaaW.PrintWords Go.Proofs.YtnoddedgkgkfhaaW.PrintLast
set_option linter.unusedVariables false
set_option linter.unusedSimpArgs false
def unitC (e : En) (u : U0) : Array Value := #[.string u.name, .int .i64 u.kind, .int .i64 u.load, .slice u.A3 u.n3 u.c3, .slice u.A4 u.n4 u.c4, .slice u.A5 u.n5 u.c5, .slice u.A6 u.n6 u.c6, .slice u.A7 u.n7 u.c7, .slice u.A8 u.n8 u.c8, .slice u.A9 u.n9 u.c9, .bool u.plain, .int .i64 e.typ, .int .i64 e.rst, .int .i64 e.kil, .slice e.Apre e.pre.length e.cpre, .slice e.Asta e.sta.length e.csta, .slice e.Asto e.sto.length e.csto, .int .i64 e.rsec, .int .i64 e.ssec, .int .i64 e.tsec, .int .i64 e.wdog, .int .i64 e.burst, .int .i64 e.ivl, .bool e.remain, .string u.s24, .string u.s25, .int .i64 u.i26, .int .i64 u.i27, .slice u.A28 u.n28 u.c28, .slice u.A29 u.n29 u.c29, .slice u.A30 u.n30 u.c30, .string u.s31, .string u.s32]
def svcC (s : S) (A : Option Addr) (n c : Nat) : Array Value := #[.int .i64 s.sub, .int .i64 s.main, .int .i64 s.control, .int .i64 s.next, .slice A n c, .bool s.stopping, .int .i64 s.result, .bool s.waiting]
def inC (x : S38) : Array Value := #[.int .i64 x.f0, .int .i64 x.f1, .int .i64 x.f2, .string x.f3, .int .i64 x.f4]
/-- the blocks of the unit and of the automaton, the row of what has begun -/
structure L4 (W w' : World) (g1 g5 : Nat) (e : En) (u : U0) (s : S) (A : Option Addr) (n c : Nat) (vb : Value) (bg : List Int) : Prop where
  b1 : w'.heap[g1]? = some (.cells (unitC e u) 24 (0, 0))
  b5 : w'.heap[g5]? = some (.cells (svcC s A n c) 30 (0, 0))
  ra : RowA w' (.slice A n c) s.starts
  ne : ∀ ad, A = some ad → ad.block ≠ g5 ∧ vb.ownBlock ≠ some ad.block
  row : w'.ownsRow (g5 + 1) 2 1 vb bg.length (bg.map (Value.int .i64))
  n1 : g1 < g5
  n5 : W.heap.size ≤ g5
  bel : Below W.heap.size W w'
theorem L4.below {W w w' : World} {g1 g5 : Nat} {e : En} {u : U0} {s : S} {A : Option Addr} {n c : Nat} {vb : Value} {bg : List Int} (h : L4 W w g1 g5 e u s A n c vb bg) (hB : Below w.heap.size w w') : L4 W w' g1 g5 e u s A n c vb bg :=
  ⟨blk_below h.b1 hB, blk_below h.b5 hB, h.ra.below hB, h.ne, pw_own_below h.row hB, h.n1, h.n5, h.bel.trans (hB.mono h.bel.size)⟩
theorem svc_reads {w : World} {g : Nat} {s : S} {A : Option Addr} {n c : Nat} (h : w.heap[g]? = some (.cells (svcC s A n c) 30 (0, 0))) :
    w.cell? ⟨g, 0, none⟩ = some (.int .i64 s.sub) ∧ w.cell? ⟨g, 1, none⟩ = some (.int .i64 s.main) ∧ w.cell? ⟨g, 2, none⟩ = some (.int .i64 s.control) ∧ w.cell? ⟨g, 3, none⟩ = some (.int .i64 s.next) ∧ w.cell? ⟨g, 4, none⟩ = some (.slice A n c) ∧ w.cell? ⟨g, 5, none⟩ = some (.bool s.stopping) ∧ w.cell? ⟨g, 6, none⟩ = some (.int .i64 s.result) ∧ w.cell? ⟨g, 7, none⟩ = some (.bool s.waiting) :=
  ⟨(blk_cell h 0).trans rfl, (blk_cell h 1).trans rfl, (blk_cell h 2).trans rfl, (blk_cell h 3).trans rfl, (blk_cell h 4).trans rfl, (blk_cell h 5).trans rfl, (blk_cell h 6).trans rfl, (blk_cell h 7).trans rfl⟩
theorem in_reads {w : World} {g : Nat} {x : S38} (h : w.heap[g]? = some (.cells (inC x) 38 (0, 0))) :
    w.cell? ⟨g, 0, none⟩ = some (.int .i64 x.f0) ∧ w.cell? ⟨g, 1, none⟩ = some (.int .i64 x.f1) ∧ w.cell? ⟨g, 2, none⟩ = some (.int .i64 x.f2) ∧ w.cell? ⟨g, 3, none⟩ = some (.string x.f3) ∧ w.cell? ⟨g, 4, none⟩ = some (.int .i64 x.f4) :=
  ⟨(blk_cell h 0).trans rfl, (blk_cell h 1).trans rfl, (blk_cell h 2).trans rfl, (blk_cell h 3).trans rfl, (blk_cell h 4).trans rfl⟩
/-- behind the step: what was, what is, what is wanted -/
structure L6 (W wd : World) (g1 g5 g9 g10 g11 N : Nat) (e : En) (u : U0) (x : S38) (s : S) (A : Option Addr) (n c : Nat) (vb : Value) (bg : List Int) (s2 : S) (A7 : Option Addr) (n7 c7 : Nat) (vo : Value) (acts : List S41) : Prop where
  l4 : L4 W wd g1 g5 e u s A n c vb bg
  b9 : wd.heap[g9]? = some (.cells (inC x) 38 (0, 0))
  b10 : wd.heap[g10]? = some (.cells (svcC s A n c) 30 (0, 0))
  b11 : wd.heap[g11]? = some (.cells (svcC s2 A7 n7 c7) 30 (0, 0))
  ra : RowA wd (.slice A7 n7 c7) s2.starts
  ne : ∀ ad, A7 = some ad → ad.block ≠ g5 ∧ vb.ownBlock ≠ some ad.block
  n9 : g5 < g9
  n10 : g5 < g10
  nN : g5 < N
  out : wd.ownsRow N 41 6 vo acts.length (acts.flatMap cellsA)
/-- the automaton is the new one -/
structure L7 (W we : World) (g1 g5 g9 g10 : Nat) (e : En) (u : U0) (x : S38) (s : S) (A : Option Addr) (n c : Nat) (vb : Value) (bg : List Int) (s2 : S) (A7 : Option Addr) (n7 c7 : Nat) (vo : Value) (acts : List S41) : Prop where
  l4 : L4 W we g1 g5 e u s2 A7 n7 c7 vb bg
  b9 : we.heap[g9]? = some (.cells (inC x) 38 (0, 0))
  b10 : we.heap[g10]? = some (.cells (svcC s A n c) 30 (0, 0))
  out : ∃ N, we.ownsRow N 41 6 vo acts.length (acts.flatMap cellsA)
theorem L7.below {W w w' : World} {g1 g5 g9 g10 : Nat} {e : En} {u : U0} {x : S38} {s : S} {A : Option Addr} {n c : Nat} {vb : Value} {bg : List Int} {s2 : S} {A7 : Option Addr} {n7 c7 : Nat} {vo : Value} {acts : List S41}
    (h : L7 W w g1 g5 g9 g10 e u x s A n c vb bg s2 A7 n7 c7 vo acts) (hB : Below w.heap.size w w') : L7 W w' g1 g5 g9 g10 e u x s A n c vb bg s2 A7 n7 c7 vo acts := by
  obtain ⟨N, hN⟩ := h.out
  exact ⟨h.l4.below hB, blk_below h.b9 hB, blk_below h.b10 hB, N, pw_own_below hN hB⟩
/-- what the loop keeps of the numbers -/
structure N4 (e : En) (s : S) (bg : List Int) (now : Int) (i : Nat) : Prop where
  li : LimI e.ivl now bg s.starts
  sp : Sp e.ivl e.burst.toNat bg
  le : bg.length ≤ i
  n0 : 0 ≤ now
  n1 : now ≤ 15 * (i : Int)
theorem N4.starts {e : En} {s : S} {bg : List Int} {now : Int} {i : Nat} (h : N4 e s bg now i) (hi : i ≤ 121) : s.starts.length ≤ 100000 := by
  have := h.li.starts.1
  have := h.le
  omega
/-- two numbers, alike or not -/
def Eq3 (x y : Int) : Prop := (x = y) = True ∧ (decide (x = y) = true ∧ (x != y) = false) ∧ (x == y) = true
def Ne3 (x y : Int) : Prop := (x = y) = False ∧ (decide (x = y) = false ∧ (x != y) = true) ∧ (x == y) = false
theorem eq3 {x y : Int} (h : x = y) : Eq3 x y := ⟨eq_true h, ⟨decide_eq_true h, by rw [bne_eq_false_iff_eq]; exact h⟩, by rw [beq_iff_eq]; exact h⟩
theorem ne3 {x y : Int} (h : x ≠ y) : Ne3 x y := ⟨eq_false h, ⟨decide_eq_false h, by rw [bne_iff_ne]; exact h⟩, beq_eq_false_iff_ne.2 h⟩
end Go.Proofs.Ytnoddedgkgkfhaa.Svc
