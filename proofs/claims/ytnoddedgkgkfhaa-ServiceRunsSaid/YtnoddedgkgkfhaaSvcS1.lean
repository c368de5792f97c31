/- The blocks of ServiceRuns. -/
import Derived.Test.YtnoddedgkgkfhaaSvcS0
namespace Go.Proofs.Ytnoddedgkgkfhaa.Svc
open Go.RowKit Go.Shelf Go.Proofs.YtnoddedgkgkfhaaW.PrintWords Go.Proofs.YtnoddedgkgkfhaaW.PrintLast
set_option linter.unusedVariables false
set_option linter.unusedSimpArgs false
theorem stepS_er {u : U0} {e : En} {s s2 : S} {acts : List S41} {er : Int} (h : stepS u e s = (s2, acts, er)) : er = 0 ∨ (er = 200 ∧ s2 = s ∧ acts = []) := by
  unfold stepS at h
  split at h
  · split at h
    · injection h with h1 h2
      injection h2 with h2 h3
      exact .inl h3.symm
    · injection h with h1 h2
      injection h2 with h2 h3
      exact .inr ⟨h3.symm, h1.symm, h2.symm⟩
  · injection h with h1 h2
    injection h2 with h2 h3
    exact .inr ⟨h3.symm, h1.symm, h2.symm⟩
/-- all but three blocks are kept -/
structure Kb (a b c : Nat) (X Y : World) : Prop where
  os : Y.os = X.os
  tape : Y.tape = X.tape
  output : Y.output = X.output
  size : X.heap.size ≤ Y.heap.size
  block : ∀ g, g < X.heap.size → g ≠ a → g ≠ b → g ≠ c → Y.heap[g]? = X.heap[g]?
variable {a b c : Nat} {X Y Z : World}
theorem Kb.refl (X : World) : Kb a b c X X := ⟨rfl, rfl, rfl, Nat.le_refl _, fun _ _ _ _ _ => rfl⟩
theorem Kb.trans (h : Kb a b c X Y) (k : Kb a b c Y Z) : Kb a b c X Z :=
  ⟨k.os.trans h.os, k.tape.trans h.tape, k.output.trans h.output, Nat.le_trans h.size k.size, fun g hg h1 h2 h3 => (k.block g (Nat.lt_of_lt_of_le hg h.size) h1 h2 h3).trans (h.block g hg h1 h2 h3)⟩
theorem Kb.of_below (h : Below X.heap.size X Y) : Kb a b c X Y := ⟨h.os, h.tape, h.output, h.size, fun g hg _ _ _ => h.block g hg⟩
theorem Kb.of_grown {g0 : Nat} (h : X.grownBy Y (some g0)) (hg : g0 = a ∨ g0 = b ∨ g0 = c) : Kb a b c X Y :=
  ⟨h.os, h.tape, h.output, h.size, fun g hg' h1 h2 h3 => h.block g hg' (fun e => by injection e with e; omega)⟩
theorem Kb.below {n0 : Nat} (h : Kb a b c X Y) (hn : n0 ≤ X.heap.size) (ha : n0 ≤ a) (hb : n0 ≤ b) (hc : n0 ≤ c) : Below n0 X Y :=
  ⟨h.os, h.tape, h.output, h.size, fun g hg => h.block g (by omega) (by omega) (by omega) (by omega)⟩
/-- where the blocks lie -/
structure Od (lo hi gu gl gst gat gok gnow : Nat) : Prop where
  h0 : lo ≤ gu
  h1 : gu < gl
  h2 : gl < gst
  h3 : gst < gat
  h4 : gat < gok
  h5 : gok < gnow
  h6 : gnow < hi
/-- the law's side, k inputs having been told -/
structure RL (lo hi gu gl gst gat gok gnow : Nat) (e : En) (u : U0) (A1 : Option Addr) (c1 : Nat) (l1 : List S38) (stop : Int) (X : World) (k : Nat) (s : S) (A : Option Addr) (n c : Nat) : Prop where
  bu : X.heap[gu]? = some (.cells (unitC e u) 24 (0, 0))
  bl : X.heap[gl]? = some (.cells #[.slice A1 l1.length c1] 25 (0, 0))
  bst : X.heap[gst]? = some (.cells #[.int .i64 stop] 3 (0, 0))
  bat : X.heap[gat]? = some (.cells #[.int .i64 (k : Int)] 3 (0, 0))
  bok : X.heap[gok]? = some (.cells #[.bool true] 4 (0, 0))
  bnow : X.heap[gnow]? = some (.cells (svcC s A n c) 30 (0, 0))
  ra : RowA X (.slice A n c) s.starts
  ap : ∀ ad, A = some ad → ad.block < lo ∨ hi ≤ ad.block
theorem RL.below {lo hi gu gl gst gat gok gnow : Nat} {e : En} {u : U0} {A1 : Option Addr} {c1 : Nat} {l1 : List S38} {stop : Int} {k : Nat} {s : S} {A : Option Addr} {n c : Nat}
    (h : RL lo hi gu gl gst gat gok gnow e u A1 c1 l1 stop X k s A n c) (hB : Below X.heap.size X Y) : RL lo hi gu gl gst gat gok gnow e u A1 c1 l1 stop Y k s A n c :=
  ⟨blk_below h.bu hB, blk_below h.bl hB, blk_below h.bst hB, blk_below h.bat hB, blk_below h.bok hB, blk_below h.bnow hB, h.ra.below hB, h.ap⟩
/-- what is read of them -/
theorem RL.reads {lo hi gu gl gst gat gok gnow : Nat} {e : En} {u : U0} {A1 : Option Addr} {c1 : Nat} {l1 : List S38} {stop : Int} {k : Nat} {s : S} {A : Option Addr} {n c : Nat} {uv : Value}
    (h : RL lo hi gu gl gst gat gok gnow e u A1 c1 l1 stop X k s A n c) (hU : Value.agg (unitC e u) = uv) (hX : Below X.heap.size X Y) :
    (load24 (.pointer (some ⟨gu, 0, none⟩))).run Try.prog Y = .ok uv Y ∧ Y.cell? ⟨gl, 0, none⟩ = some (.slice A1 l1.length c1) ∧ Y.cell? ⟨gst, 0, none⟩ = some (.int .i64 stop) ∧ Y.cell? ⟨gat, 0, none⟩ = some (.int .i64 (k : Int)) ∧ Y.cell? ⟨gok, 0, none⟩ = some (.bool true) ∧ Y.cell? ⟨gnow, 0, none⟩ = some (.int .i64 s.sub) ∧ Y.cell? ⟨gnow, 1, none⟩ = some (.int .i64 s.main) ∧ Y.cell? ⟨gnow, 2, none⟩ = some (.int .i64 s.control) ∧ Y.cell? ⟨gnow, 3, none⟩ = some (.int .i64 s.next) ∧ Y.cell? ⟨gnow, 4, none⟩ = some (.slice A n c) ∧ Y.cell? ⟨gnow, 5, none⟩ = some (.bool s.stopping) ∧ Y.cell? ⟨gnow, 6, none⟩ = some (.int .i64 s.result) ∧ Y.cell? ⟨gnow, 7, none⟩ = some (.bool s.waiting) := by
  have h' := h.below hX
  exact ⟨by rw [← hU]; exact load24_run h'.bu (by kernel_rfl), (blk_cell h'.bl 0).trans rfl, (blk_cell h'.bst 0).trans rfl, (blk_cell h'.bat 0).trans rfl, (blk_cell h'.bok 0).trans rfl, svc_reads h'.bnow⟩
/-- the new automaton laid where the old one was, one more told -/
theorem RL.next {lo hi gu gl gst gat gok gnow : Nat} {e : En} {u : U0} {A1 : Option Addr} {c1 : Nat} {l1 : List S38} {stop : Int} {k : Nat} {s s2 : S} {A A2 : Option Addr} {n c n2 c2 : Nat}
    (o : Od lo hi gu gl gst gat gok gnow) (h : RL lo hi gu gl gst gat gok gnow e u A1 c1 l1 stop X k s A n c) (hr : RowA X (.slice A2 n2 c2) s2.starts) (hap : ∀ ad, A2 = some ad → ad.block < lo ∨ hi ≤ ad.block)
    (hY : Y = ((X.setCell ⟨gok, 0, none⟩ (.bool true)).setRow gnow (svcC s2 A2 n2 c2)).setCell ⟨gat, 0, none⟩ (.int .i64 ((k + 1 : Nat) : Int))) :
    RL lo hi gu gl gst gat gok gnow e u A1 c1 l1 stop Y (k + 1) s2 A2 n2 c2 ∧ Kb gat gok gnow X Y := by
  obtain ⟨o0, o1, o2, o3, o4, o5, o6⟩ := o
  have g1 : X.grownBy (X.setCell ⟨gok, 0, none⟩ (.bool true)) (some gok) := grown_set X ⟨gok, 0, none⟩ (.bool true)
  obtain ⟨X1, hX1⟩ : ∃ X1, X.setCell ⟨gok, 0, none⟩ (.bool true) = X1 := ⟨_, rfl⟩
  rw [hX1] at g1 hY
  have g2 := grown_row X1 gnow (svcC s2 A2 n2 c2)
  obtain ⟨X2, hX2⟩ : ∃ X2, X1.setRow gnow (svcC s2 A2 n2 c2) = X2 := ⟨_, rfl⟩
  rw [hX2] at g2 hY
  have g3 : X2.grownBy (X2.setCell ⟨gat, 0, none⟩ (.int .i64 ((k + 1 : Nat) : Int))) (some gat) := grown_set X2 ⟨gat, 0, none⟩ (.int .i64 ((k + 1 : Nat) : Int))
  rw [← hY] at g3
  have hk : Kb gat gok gnow X Y := (Kb.of_grown g1 (.inr (.inl rfl))).trans ((Kb.of_grown g2 (.inr (.inr rfl))).trans (Kb.of_grown g3 (.inl rfl)))
  have hn1 : X1.heap[gnow]? = some (.cells (svcC s A n c) 30 (0, 0)) := blk_grown h.bnow g1 (fun e => by injection e with e; omega)
  have hok1 : X1.heap[gok]? = some (.cells #[.bool true] 4 (0, 0)) := by rw [← hX1]; exact blk_put h.bok 0 (.bool true) rfl
  have hn2 : X2.heap[gnow]? = some (.cells (svcC s2 A2 n2 c2) 30 (0, 0)) := by rw [← hX2]; exact setRow_heap X1 gnow _ _ 30 (0, 0) hn1
  have hat2 : X2.heap[gat]? = some (.cells #[.int .i64 (k : Int)] 3 (0, 0)) := blk_grown (blk_grown h.bat g1 (fun e => by injection e with e; omega)) g2 (fun e => by injection e with e; omega)
  have kp : ∀ {g : Nat} {ob : Obj}, X.heap[g]? = some ob → g ≠ gat → g ≠ gok → g ≠ gnow → Y.heap[g]? = some ob := fun hg h1 h2 h3 => (hk.block _ (blk_lt hg) h1 h2 h3).trans hg
  refine ⟨⟨kp h.bu (by omega) (by omega) (by omega), kp h.bl (by omega) (by omega) (by omega), kp h.bst (by omega) (by omega) (by omega), by rw [hY]; exact blk_put hat2 0 _ rfl,
    blk_grown (blk_grown hok1 g2 (fun e => by injection e with e; omega)) g3 (fun e => by injection e with e; omega), blk_grown hn2 g3 (fun e => by injection e with e; omega), ?_, hap⟩, hk⟩
  have hno : ∀ g, lo ≤ g → g < hi → ∀ ad, A2 = some ad → ad.block ≠ g := fun g h1 h2 ad ha => by have := hap ad ha; omega
  exact ((hr.grown g1 (hno gok (by omega) (by omega))).grown g2 (hno gnow (by omega) (by omega))).grown g3 (hno gat (by omega) (by omega))
/-- behind the law's own step: what it is, what it wants -/
structure R9 (lo hi gx gy : Nat) (X Y : World) (s2 : S) (Ax : Option Addr) (nx cx : Nat) (A7 : Option Addr) (n7 c7 : Nat) (vo : Value) (acts : List S41) : Prop where
  bel : Below X.heap.size X Y
  bx : Y.heap[gx]? = some (.cells (svcC s2 Ax nx cx) 30 (0, 0))
  gxh : X.heap.size ≤ gx
  byy : Y.heap[gy]? = some (.cells (svcC s2 A7 n7 c7) 30 (0, 0))
  gyh : X.heap.size ≤ gy
  gxy : gx ≠ gy
  ry : RowA Y (.slice A7 n7 c7) s2.starts
  ap : ∀ ad, A7 = some ad → ad.block < lo ∨ hi ≤ ad.block
  oo : ∃ N, Y.ownsRow N 41 6 vo acts.length (acts.flatMap cellsA)
theorem R9.below {lo hi gx gy : Nat} {s2 : S} {Ax : Option Addr} {nx cx : Nat} {A7 : Option Addr} {n7 c7 : Nat} {vo : Value} {acts : List S41}
    (h : R9 lo hi gx gy X Y s2 Ax nx cx A7 n7 c7 vo acts) (hB : Below Y.heap.size Y Z) : R9 lo hi gx gy X Z s2 Ax nx cx A7 n7 c7 vo acts := by
  obtain ⟨M, hM⟩ := h.oo
  exact ⟨h.bel.trans (hB.mono h.bel.size), blk_below h.bx hB, h.gxh, blk_below h.byy hB, h.gyh, h.gxy, h.ry.below hB, h.ap, M, pw_own_below hM hB⟩
/-- the new automaton in a block that was laid ahead of the step -/
theorem r9_mk {lo hi gx gy N : Nat} {w1 w7 : World} {s2 : S} {Ax : Option Addr} {nx cx : Nat} {A7 : Option Addr} {n7 c7 : Nat} {vo : Value} {acts : List S41} {z0 z1 z2 z3 z4 z5 z6 z7 : Value}
    (hX : Below X.heap.size X w1) (hbx : w1.heap[gx]? = some (.cells (svcC s2 Ax nx cx) 30 (0, 0))) (hgx : X.heap.size ≤ gx)
    (hB : Below w1.heap.size w1 w7) (h8 : w7.heap[gy]? = some (.cells #[z0, z1, z2, z3, z4, z5, z6, z7] 30 (0, 0))) (hg8 : w1.heap.size ≤ gy) (hgN : gy < N) (hra : RowA w7 (.slice A7 n7 c7) s2.starts) (hn8 : ∀ ad, A7 = some ad → ad.block ≠ gy)
    (hap : ∀ ad, A7 = some ad → ad.block < lo ∨ hi ≤ ad.block) (hoo : w7.ownsRow N 41 6 vo acts.length (acts.flatMap cellsA)) :
    R9 lo hi gx gy X (eight8 w7 gy (.int .i64 s2.sub) (.int .i64 s2.main) (.int .i64 s2.control) (.int .i64 s2.next) (.slice A7 n7 c7) (.bool s2.stopping) (.int .i64 s2.result) (.bool s2.waiting)) s2 Ax nx cx A7 n7 c7 vo acts := by
  have hg := eight8_grown w7 gy (.int .i64 s2.sub) (.int .i64 s2.main) (.int .i64 s2.control) (.int .i64 s2.next) (.slice A7 n7 c7) (.bool s2.stopping) (.int .i64 s2.result) (.bool s2.waiting)
  have h8' := eight8_blk h8 (.int .i64 s2.sub) (.int .i64 s2.main) (.int .i64 s2.control) (.int .i64 s2.next) (.slice A7 n7 c7) (.bool s2.stopping) (.int .i64 s2.result) (.bool s2.waiting)
  obtain ⟨w9, hw9⟩ : ∃ w9, eight8 w7 gy (.int .i64 s2.sub) (.int .i64 s2.main) (.int .i64 s2.control) (.int .i64 s2.next) (.slice A7 n7 c7) (.bool s2.stopping) (.int .i64 s2.result) (.bool s2.waiting) = w9 := ⟨_, rfl⟩
  rw [hw9] at hg h8' ⊢
  have hB9 : Below w1.heap.size w1 w9 := hB.grown hg hB.size (fun k e => by injection e with e; omega)
  have hlt := blk_lt hbx
  exact ⟨hX.trans (hB9.mono hX.size), blk_below hbx hB9, hgx, h8', Nat.le_trans hX.size hg8, by omega, hra.grown hg hn8, hap, N, hoo.kept hg (.inr (fun e => by have := (hoo.lt gy e).1; omega))⟩
theorem r9_mk2 {lo hi gx N : Nat} {w1 w7 : World} {s2 : S} {Ax : Option Addr} {nx cx : Nat} {A7 : Option Addr} {n7 c7 : Nat} {vo : Value} {acts : List S41}
    (hX : Below X.heap.size X w1) (hbx : w1.heap[gx]? = some (.cells (svcC s2 Ax nx cx) 30 (0, 0))) (hgx : X.heap.size ≤ gx)
    (hB : Below w1.heap.size w1 w7) (hra : RowA w7 (.slice A7 n7 c7) s2.starts) (hap : ∀ ad, A7 = some ad → ad.block < lo ∨ hi ≤ ad.block) (hoo : w7.ownsRow N 41 6 vo acts.length (acts.flatMap cellsA)) :
    R9 lo hi gx w7.heap.size X (w7.alloc (.cells (svcC s2 A7 n7 c7) 30)) s2 Ax nx cx A7 n7 c7 vo acts := by
  have hB9 := below_alloc hB (.cells (svcC s2 A7 n7 c7) 30)
  have hB3 : Below w7.heap.size w7 (w7.alloc (.cells (svcC s2 A7 n7 c7) 30)) := (Below.refl _ _).alloc (Nat.le_refl _) _
  have hlt := blk_lt hbx
  have h1 := hB.size
  have h2 := hX.size
  exact ⟨hX.trans (hB9.mono hX.size), blk_below hbx hB9, hgx, blk_new _ _, by omega, by omega, hra.below hB3, hap, N, pw_own_below hoo hB3⟩
/-- what was refused: the automaton that was -/
theorem r9_err {lo hi gu gl gst gat gok gnow : Nat} {e : En} {u : U0} {A1 : Option Addr} {c1 : Nat} {l1 : List S38} {stop : Int} {k : Nat} {s : S} {A : Option Addr} {n c : Nat} {gx gy : Nat} {s2 : S} {Ax : Option Addr} {nx cx : Nat} {A7 : Option Addr} {n7 c7 : Nat} {vo : Value} {acts : List S41} (h : RL lo hi gu gl gst gat gok gnow e u A1 c1 l1 stop X k s A n c) (hs : s2 = s) (ha : acts = [])
    (h9 : R9 lo hi gx gy X Y s2 Ax nx cx A7 n7 c7 vo acts) : R9 lo hi gx gy X (Y.setRow gy (svcC s A n c)) s2 Ax nx cx A n c (.slice none 0 0) acts := by
  subst hs ha
  have hB : Below X.heap.size X (Y.setRow gy (svcC s2 A n c)) := h9.bel.grown (grown_row Y gy _) h9.bel.size (fun k e => by injection e with e; have := h9.gyh; omega)
  exact ⟨hB, (setRow_other Y gy gx _ h9.gxy).trans h9.bx, h9.gxh, setRow_heap Y gy _ _ 30 (0, 0) h9.byy, h9.gyh, h9.gxy, h.ra.below hB, h.ap, 0, World.ownsRow_nil ..⟩
/-- the new starts lie apart from the blocks -/
theorem fresh_ap {X : World} {A A7 : Option Addr} {n7 c7 lo hi : Nat} (hf : Fresh X A (.slice A7 n7 c7)) (hA : ∀ ad, A = some ad → ad.block < lo ∨ hi ≤ ad.block) (hX : hi ≤ X.heap.size) : ∀ ad, A7 = some ad → ad.block < lo ∨ hi ≤ ad.block := fun ad h => by
  rcases hf ad n7 c7 (by rw [h]) with h2 | h2
  · omega
  · exact hA ad h2
end Go.Proofs.Ytnoddedgkgkfhaa.Svc
