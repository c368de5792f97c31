/- What service.Run's loop keeps. -/
import Derived.Test.YtnoddedgkgkfhaaSvcS2
namespace Go.Proofs.Ytnoddedgkgkfhaa.Svc
open Go.RowKit Go.Shelf Go.Proofs.YtnoddedgkgkfhaaW.PrintWords Go.Proofs.YtnoddedgkgkfhaaW.PrintLast
set_option linter.unusedVariables false
set_option linter.unusedSimpArgs false
theorem step_len {u : U0} {e : En} {s s2 : S} {acts : List S41} {er : Int} (h : stepS u e s = (s2, acts, er)) (hs : s.starts.length ≤ 1000) : s2.starts.length ≤ 1000 := by
  unfold stepS at h
  split at h
  · split at h
    · injection h with h1 h2
      rw [← h1]
      cases ht : tellsB e { s with out := [] } with
      | false => rw [told_quiet ht]; exact hs
      | true =>
        rw [told_tells ht]
        have hl : ∀ q : S, q.starts.length ≤ 1000 → (limitedS e q).1.starts.length ≤ 1000 := by
          intro q hq
          unfold limitedS
          have hf := List.length_filter_le (keepB e) q.starts
          split
          · exact Nat.zero_le _
          · split
            · show (q.starts.filter (keepB e)).length ≤ 1000; omega
            · show ((q.starts.filter (keepB e) ++ [lastF e (q.starts.filter (keepB e))]).drop ((q.starts.filter (keepB e)).length - 99)).length ≤ 1000
              rw [List.length_drop, List.length_append, List.length_singleton]
              omega
        have h0 := hl { s with out := [] } hs
        show (beginsS e { s with out := [] }).starts.length ≤ 1000
        unfold beginsS beginsG
        split
        · exact h0
        · rw [prepares_st]; exact h0
    · injection h with h1 h2
      rw [← h1]; exact hs
  · injection h with h1 h2
    rw [← h1]; exact hs
/-- cells stay where a block that is no cells is turned -/
theorem cells_own {X Y : World} {row : Option Nat} {g : Nat} {cs : Array Value} {t : TypeId} (h : X.heap[g]? = some (.cells cs t (0, 0))) (hg : X.grownBy Y row) (hr : ∀ r, row = some r → ∃ o : Obj, X.heap[r]? = some o ∧ o.isCells = false) : Y.heap[g]? = some (.cells cs t (0, 0)) :=
  blk_grown h hg (fun e => by
    obtain ⟨o, ho, hc⟩ := hr g e.symm
    rw [h] at ho
    injection ho with ho
    subst ho
    cases hc)
theorem RowA.own {X Y : World} {row : Option Nat} {A : Option Addr} {n c : Nat} {xs : List Int} (h : RowA X (.slice A n c) xs) (hg : X.grownBy Y row) (hr : ∀ r, row = some r → ∃ o : Obj, X.heap[r]? = some o ∧ o.isCells = false) : RowA Y (.slice A n c) xs := by
  rcases h with h | ⟨ad, c', h1, h2, h3, h4⟩
  · exact .inl h
  · refine .inr ⟨ad, c', h1, h2, Nat.lt_of_lt_of_le h3 hg.size, fun j v hj => hg.cell (h4 j v hj) (fun e => ?_)⟩
    obtain ⟨o, ho, hc⟩ := hr _ e.symm
    have h5 := h4 j v hj
    unfold World.cell? at h5
    rw [ho] at h5
    cases o <;> first | (cases hc; done) | (simp at h5; done)
theorem RowA.kb {a b d : Nat} {X Y : World} {A : Option Addr} {n c : Nat} {xs : List Int} (h : RowA X (.slice A n c) xs) (hk : Kb a b d X Y) (hn : ∀ ad, A = some ad → ad.block ≠ a ∧ ad.block ≠ b ∧ ad.block ≠ d) : RowA Y (.slice A n c) xs := by
  rcases h with h | ⟨ad, c', h1, h2, h3, h4⟩
  · exact .inl h
  · injection h1 with h1a h1b h1c
    obtain ⟨n1, n2, n3⟩ := hn ad h1a
    refine .inr ⟨ad, c', by rw [h1a, h1b, h1c], h2, Nat.lt_of_lt_of_le h3 hk.size, fun j v hj => ?_⟩
    have h5 := h4 j v hj
    have hb : Y.heap[(ad.add j).block]? = X.heap[(ad.add j).block]? := hk.block _ (by rw [block_add]; exact h3) (by rw [block_add]; exact n1) (by rw [block_add]; exact n2) (by rw [block_add]; exact n3)
    unfold World.cell? at h5 ⊢
    rw [hb]
    exact h5
/-- where the loop's blocks lie -/
structure Oe (gnow gl2 ru gy bn B : Nat) : Prop where
  h1 : gnow < gl2
  h2 : gl2 < ru
  h3 : ru < gy
  h4 : gy < bn
  h5 : bn < B
def yieldV (gu gl gst gat gok gnow : Nat) : Value := .func (.func 26) #[] #[.pointer (some ⟨gat, 0, none⟩), .pointer (some ⟨gl, 0, none⟩), .pointer (some ⟨gok, 0, none⟩), .pointer (some ⟨gu, 0, none⟩), .pointer (some ⟨gnow, 0, none⟩), .pointer (some ⟨gst, 0, none⟩)]
/-- between two rounds -/
structure RI (W0 : World) (B gu gl gst gat gok gnow ru bn gy gs : Nat) (os : Array Value) (e : En) (u : U0) (A1 : Option Addr) (c1 : Nat) (l1 : List S38) (stop : Int) (W : World) (k : Nat) : Prop where
  ex : ∃ (s : S) (A : Option Addr) (n c : Nat) (A' : Option Addr) (n' c' : Nat), RL W0.heap.size B gu gl gst gat gok gnow e u A1 c1 l1 stop W k s A' n' c' ∧ W.heap[bn]? = some (.cells (svcC s A n c) 30 (0, 0)) ∧ RowA W (.slice A n c) s.starts ∧ (∀ ad, A = some ad → ad.block < W0.heap.size ∨ B ≤ ad.block) ∧ s.starts.length ≤ 1000
  by_ : W.heap[gy]? = some (.cells #[yieldV gu gl gst gat gok gnow] 65 (0, 0))
  bru : W.heap[ru]? = some (.cells (unitC e u) 24 (0, 0))
  bel : Below W0.heap.size W0 W
  kx : W.heap[gs]? = some (.cells os 30 (0, 0))
/-- it was left: no more are asked for -/
structure RX (W0 : World) (B gu gl gst gat gok gnow gs : Nat) (os : Array Value) (e : En) (u : U0) (A1 : Option Addr) (c1 : Nat) (l1 : List S38) (stop : Int) (W : World) (k : Nat) : Prop where
  ex : ∃ (s : S) (A' : Option Addr) (n' c' : Nat), RL W0.heap.size B gu gl gst gat gok gnow e u A1 c1 l1 stop W k s A' n' c'
  st : (k : Int) = stop
  bel : Below W0.heap.size W0 W
  kx : W.heap[gs]? = some (.cells os 30 (0, 0))
variable {W0 : World} {B gu gl gst gat gok gnow ru bn gy gl2 gs : Nat} {os : Array Value} {e : En} {u : U0} {A1 : Option Addr} {c1 : Nat} {l1 : List S38} {stop : Int}
theorem RL.own {X Y : World} {k : Nat} {s : S} {A : Option Addr} {n c lo hi : Nat} {row : Option Nat} (h : RL lo hi gu gl gst gat gok gnow e u A1 c1 l1 stop X k s A n c) (hg : X.grownBy Y row) (hr : ∀ r, row = some r → ∃ o : Obj, X.heap[r]? = some o ∧ o.isCells = false) : RL lo hi gu gl gst gat gok gnow e u A1 c1 l1 stop Y k s A n c :=
  ⟨cells_own h.bu hg hr, cells_own h.bl hg hr, cells_own h.bst hg hr, cells_own h.bat hg hr, cells_own h.bok hg hr, cells_own h.bnow hg hr, h.ra.own hg hr, h.ap⟩
theorem ri_own (hB : W0.heap.size ≤ B) : OwnFrom B (fun (pre : List S38) W => RI W0 B gu gl gst gat gok gnow ru bn gy gs os e u A1 c1 l1 stop W pre.length) := by
  intro pre X Y row h hg hr
  have hr' := fun r e => (hr r e).2
  obtain ⟨s, A, n, c, A', n', c', h1, h2, h3, h4, h5⟩ := h.ex
  exact ⟨⟨s, A, n, c, A', n', c', h1.own hg hr', cells_own h2 hg hr', h3.own hg hr', h4, h5⟩, cells_own h.by_ hg hr', cells_own h.bru hg hr', h.bel.grown hg h.bel.size (fun k e => by have := (hr k e).1; omega), cells_own h.kx hg hr'⟩
theorem rx_own (hB : W0.heap.size ≤ B) : OwnFrom B (fun (pre : List S38) W => RX W0 B gu gl gst gat gok gnow gs os e u A1 c1 l1 stop W pre.length) := by
  intro pre X Y row h hg hr
  have hr' := fun r e => (hr r e).2
  obtain ⟨s, A', n', c', h1⟩ := h.ex
  exact ⟨⟨s, A', n', c', h1.own hg hr'⟩, h.st, h.bel.grown hg h.bel.size (fun k e => by have := (hr k e).1; omega), cells_own h.kx hg hr'⟩
theorem ri_below {X Y : World} {k : Nat} (h : RI W0 B gu gl gst gat gok gnow ru bn gy gs os e u A1 c1 l1 stop X k) (hB : Below X.heap.size X Y) : RI W0 B gu gl gst gat gok gnow ru bn gy gs os e u A1 c1 l1 stop Y k := by
  obtain ⟨s, A, n, c, A', n', c', h1, h2, h3, h4, h5⟩ := h.ex
  exact ⟨⟨s, A, n, c, A', n', c', h1.below hB, blk_below h2 hB, h3.below hB, h4, h5⟩, blk_below h.by_ hB, blk_below h.bru hB, h.bel.trans (hB.mono h.bel.size), blk_below h.kx hB⟩
/-- behind the step: Run's own automaton is the new one -/
theorem ri_set {W w7 w9 : World} {k : Nat} {s s2 : S} {A A' A7 : Option Addr} {n c n' c' n7 c7 : Nat} {vo : Value} {acts : List S41} (o : Od W0.heap.size B gu gl gst gat gok gnow) (oe : Oe gnow gl2 ru gy bn B)
    (hWB : B ≤ W.heap.size) (hRL : RL W0.heap.size B gu gl gst gat gok gnow e u A1 c1 l1 stop W k s A' n' c') (hbn : W.heap[bn]? = some (.cells (svcC s A n c) 30 (0, 0))) (hA : ∀ ad, A = some ad → ad.block < W0.heap.size ∨ B ≤ ad.block)
    (hby : W.heap[gy]? = some (.cells #[yieldV gu gl gst gat gok gnow] 65 (0, 0))) (hru : W.heap[ru]? = some (.cells (unitC e u) 24 (0, 0))) (hbel : Below W0.heap.size W0 W) (hgs : gs < gat) (hkx : W.heap[gs]? = some (.cells os 30 (0, 0)))
    (hB7 : Below W.heap.size W w7) (hra : RowA w7 (.slice A7 n7 c7) s2.starts) (hown : w7.ownsRow W.heap.size 41 6 vo acts.length (acts.flatMap cellsA)) (hf : Fresh W A (.slice A7 n7 c7))
    (hw9 : w9 = eight8 (w7.alloc (.cells (svcC s2 A7 n7 c7) 30)) bn (.int .i64 s2.sub) (.int .i64 s2.main) (.int .i64 s2.control) (.int .i64 s2.next) (.slice A7 n7 c7) (.bool s2.stopping) (.int .i64 s2.result) (.bool s2.waiting)) :
    RL W0.heap.size B gu gl gst gat gok gnow e u A1 c1 l1 stop w9 k s A' n' c' ∧ w9.heap[bn]? = some (.cells (svcC s2 A7 n7 c7) 30 (0, 0)) ∧ RowA w9 (.slice A7 n7 c7) s2.starts ∧ (∀ ad, A7 = some ad → ad.block < W0.heap.size ∨ B ≤ ad.block) ∧
      w9.heap[gy]? = some (.cells #[yieldV gu gl gst gat gok gnow] 65 (0, 0)) ∧ w9.heap[ru]? = some (.cells (unitC e u) 24 (0, 0)) ∧ Below W0.heap.size W0 w9 ∧ w9.ownsRow W.heap.size 41 6 vo acts.length (acts.flatMap cellsA) ∧ B ≤ w9.heap.size ∧ Kb bn bn bn W w9 ∧ w9.heap[gs]? = some (.cells os 30 (0, 0)) := by
  obtain ⟨o0, o1, o2, o3, o4, o5, o6⟩ := o
  obtain ⟨q1, q2, q3, q4, q5⟩ := oe
  have hap := fresh_ap hf hA hWB
  have h8 := below_alloc hB7 (.cells (svcC s2 A7 n7 c7) 30)
  have h78 : Below w7.heap.size w7 (w7.alloc (.cells (svcC s2 A7 n7 c7) 30)) := (Below.refl _ _).alloc (Nat.le_refl _) _
  have g := eight8_grown (w7.alloc (.cells (svcC s2 A7 n7 c7) 30)) bn (.int .i64 s2.sub) (.int .i64 s2.main) (.int .i64 s2.control) (.int .i64 s2.next) (.slice A7 n7 c7) (.bool s2.stopping) (.int .i64 s2.result) (.bool s2.waiting)
  rw [← hw9] at g
  have hR8 := hRL.below h8
  have hk : Kb bn bn bn W w9 := (Kb.of_below h8).trans (Kb.of_grown g (.inl rfl))
  have kp : ∀ {j : Nat} {ob : Obj}, W.heap[j]? = some ob → j ≠ bn → w9.heap[j]? = some ob := fun hj h1 => (hk.block _ (blk_lt hj) h1 h1 h1).trans hj
  have nb : ∀ {X : Option Addr}, (∀ ad, X = some ad → ad.block < W0.heap.size ∨ B ≤ ad.block) → ∀ ad, X = some ad → ad.block ≠ bn := fun h ad hx => by have := h ad hx; omega
  have hsz := hk.size
  have h08 : Below W0.heap.size W0 (w7.alloc (.cells (svcC s2 A7 n7 c7) 30)) := hbel.trans (h8.mono hbel.size)
  refine ⟨⟨kp hRL.bu (by omega), kp hRL.bl (by omega), kp hRL.bst (by omega), kp hRL.bat (by omega), kp hRL.bok (by omega), kp hRL.bnow (by omega), hR8.ra.grown g (nb hRL.ap), hRL.ap⟩, ?_, (hra.below h78).grown g (nb hap), hap, kp hby (by omega), kp hru (by omega), h08.grown g h08.size (fun k e => by injection e with e; omega), ?_, by omega, hk, kp hkx (by omega)⟩
  · rw [hw9]
    exact eight8_blk ((h8.block bn (blk_lt hbn)).trans hbn) _ _ _ _ _ _ _ _
  · exact (pw_own_below hown h78).kept g (.inr (fun e => by have := ((pw_own_below hown h78).lt bn e).1; omega))
/-- behind the round -/
theorem ri_next {W w9 w10 : World} {k : Nat} {s2 : S} {A7 A8 : Option Addr} {n7 c7 n8 c8 : Nat} (o : Od W0.heap.size B gu gl gst gat gok gnow) (oe : Oe gnow gl2 ru gy bn B) (hWB : B ≤ W.heap.size)
    (hbn : w9.heap[bn]? = some (.cells (svcC s2 A7 n7 c7) 30 (0, 0))) (hra : RowA w9 (.slice A7 n7 c7) s2.starts) (hap : ∀ ad, A7 = some ad → ad.block < W0.heap.size ∨ B ≤ ad.block) (hl : s2.starts.length ≤ 1000)
    (hby : w9.heap[gy]? = some (.cells #[yieldV gu gl gst gat gok gnow] 65 (0, 0))) (hru : w9.heap[ru]? = some (.cells (unitC e u) 24 (0, 0))) (hbel : Below W0.heap.size W0 w9) (hk9 : Kb bn bn bn W w9) (hgs : gs < gat) (hkx : w9.heap[gs]? = some (.cells os 30 (0, 0)))
    (hRL : RL W0.heap.size B gu gl gst gat gok gnow e u A1 c1 l1 stop w10 (k + 1) s2 A8 n8 c8) (hk : Kb gat gok gnow w9 w10) :
    RI W0 B gu gl gst gat gok gnow ru bn gy gs os e u A1 c1 l1 stop w10 (k + 1) ∧ KeepsFrom B W w10 ∧ KpI W0.heap.size gl2 W w10 ∧ Below W0.heap.size W0 w10 := by
  obtain ⟨o0, o1, o2, o3, o4, o5, o6⟩ := o
  obtain ⟨q1, q2, q3, q4, q5⟩ := oe
  have kp : ∀ {j : Nat} {ob : Obj}, w9.heap[j]? = some ob → gnow < j → w10.heap[j]? = some ob := fun hj h1 => (hk.block _ (blk_lt hj) (by omega) (by omega) (by omega)).trans hj
  have hb9 : Below W0.heap.size w9 w10 := hk.below hbel.size (by omega) (by omega) (by omega)
  have hbw : Below W0.heap.size W w9 := hk9.below (by omega) (by omega) (by omega) (by omega)
  have h0 := hbel.trans hb9
  refine ⟨⟨⟨s2, A7, n7, c7, A8, n8, c8, hRL, kp hbn (by omega), hra.kb hk (fun ad ha => by have := hap ad ha; omega), hap, hl⟩, kp hby (by omega), kp hru (by omega), h0, (hk.block _ (blk_lt hkx) (by omega) (by omega) (by omega)).trans hkx⟩, ⟨Nat.le_trans hk9.size hk.size, fun j ob hj hob _ => ?_⟩, ⟨hbw.trans hb9, ?_⟩, h0⟩
  · have h1 := hk9.block j (blk_lt hob) (by omega) (by omega) (by omega)
    have hlt9 : j < w9.heap.size := Nat.lt_of_lt_of_le (blk_lt hob) hk9.size
    exact (hk.block j hlt9 (by omega) (by omega) (by omega)).trans (h1.trans hob)
  · have hlt : gl2 < W.heap.size := by omega
    exact (hk.block gl2 (Nat.lt_of_lt_of_le hlt hk9.size) (by omega) (by omega) (by omega)).trans (hk9.block gl2 hlt (by omega) (by omega) (by omega))
end Go.Proofs.Ytnoddedgkgkfhaa.Svc
