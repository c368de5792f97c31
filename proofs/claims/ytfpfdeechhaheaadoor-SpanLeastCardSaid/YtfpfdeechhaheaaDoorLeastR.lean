/- span.Least over that iterator: the least of the row. -/
import Derived.Test.YtfpfdeechhaheaaDoorLeastT
namespace Go.Proofs.YtfpfdeechhaheaaDoor.Least
open Go.RowKit Go.Shelf
attribute [local go_sem] Oper.semAt_some
set_option linter.unusedVariables false
/-- A range over a function whose body always goes on, where the iterator turns cells of its own between the rounds (Step). -/
theorem range_steps {F : Fence} {n : Nat} {P : Program} {α : Type} {g : Operand} {ps : Array Tmp} {assign body : Code} {Q : Exit → Act → World → Prop} {a : Act} {w : World}
    (hro : F.round = none) (h1 : 1 ≤ n) {gf : Nat} {lb : Array Value} (hg : a.eval g = .func (.func gf) #[] lb) (hFg : F.fn gf) (eg : ∀ args w, (callFunc gf args).run P w = .ok (.enter gf args) w)
    {encs : α → Array Value} {Kp Step : World → World → Prop} {E : List α → World → Prop} {N : Nat}
    (hseq : ∀ (l : Nat) (J : List α → World → Prop) (W : World), Below w.heap.size w W → (∀ s A B, J s A → Step A B → J s B) →
      (∀ pre x W1, J pre W1 → pre.length < N → YieldAt F (n - 1 - 1) P l (encs x) W1 fun e W' => e = .returned (.bool true) ∧ J (pre ++ [x]) W' ∧ Kp W1 W') → J [] W →
      CallsIn F (n - 1) P gf (#[.func (.yield l) #[] #[]] ++ lb) W fun e W' => (∃ v, e = .returned v) ∧ ∃ xs, E xs W' ∧ J xs W')
    (hStep : ∀ (A B : World) (k : Nat) (o : Obj), Step A B → A.heap[k]? = some o → o.isCells = false → B.heap[k]? = some o)
    (hKt : ∀ {A B C : World}, Kp A B → Kp B C → Kp A C) (hKb : ∀ (W : World) (l : Nat) (o o' : Obj), w.heap.size ≤ l → W.heap[l]? = some o → o.isCells = false → o.isWalk = false → Kp W (W.putObj l o')) (hps : ∀ x, (encs x).size = ps.size)
    (hE : ∀ (xs : List α) (W : World) (l : Nat) (o o' : Obj), E xs W → W.heap[l]? = some o → o.isCells = false → E xs (W.putObj l o'))
    (I : List α → World → Prop) (hIs : ∀ s A B, I s A → Step A B → I s B) (hIp : ∀ (s : List α) (W : World) (l : Nat) (o o' : Obj), I s W → w.heap.size ≤ l → W.heap[l]? = some o → o.isCells = false → I s (W.putObj l o')) (hIa : ∀ (s : List α) (W : World) (o : Obj), I s W → I s (W.alloc o)) (h0 : I [] w) (a₁ : α → Act)
    (hassign : ∀ (l : Nat) (x : α) (W : World) (K : Act → World → Prop), K (a₁ x) W →
      assign.wpIn (F.inRound l) (n - 1 - 1) P (Exit.then K (fun _ _ _ => False)) { tmps := (ps.zip (encs x)).foldl (fun t (p, v) => t.setIfInBounds p v) a.tmps, defers := [] } W)
    (hbody : ∀ (l : Nat) (pre : List α) (x : α) (W : World), I pre W → pre.length < N → body.wpIn (F.inRound l) (n - 1 - 1) P (ownPostK Kp I (fun _ _ _ => False) (pre ++ [x]) W) (a₁ x) W)
    (hdone : ∀ (D : Nat) (xs : List α) (W : World), w.heap.size ≤ D → E xs W → I xs W → W.heap[D]? = some (.deferred (some [])) → Q .normal { a with defers := { target := .collected D, args := #[] } :: a.defers } W) :
    (Code.rangeFunc g ps assign body).wpIn F n P Q a w := by
  refine wpIn_rangeFunc ?_
  intro fn hfn
  rw [hro]
  obtain ⟨R, hR⟩ : ∃ R : LoopState → Option Code → Loop, R = fun st pe => { state := st, pending := pe, fn, tmps := a.tmps, params := ps, assign, body, defers := w.heap.size } := ⟨_, rfl⟩
  obtain ⟨W1, hW1⟩ : ∃ W1, (w.alloc (.deferred (some []))).alloc (.loop (R .ready none)) = W1 := ⟨_, rfl⟩
  have hrec1 : W1.heap[w.heap.size + 1]? = some (.loop (R .ready none)) := by
    rw [← hW1]
    have := World.alloc_heap_new (w.alloc (.deferred (some []))) (.loop (R .ready none))
    rwa [World.size_alloc] at this
  have hdef1 : W1.heap[w.heap.size]? = some (.deferred (some [])) := by
    rw [← hW1]
    exact (Below.heap_alloc _ _ _ (by simp)).trans (World.alloc_heap_new w _)
  have hb1 : Below w.heap.size w W1 := by
    rw [← hW1]
    exact ((Below.refl _ w).alloc (Nat.le_refl _) _).alloc (by simp) _
  have hI1 : I [] W1 := by rw [← hW1]; exact hIa _ _ _ (hIa _ _ _ h0)
  refine ⟨w.heap.size + 1, [{ target := .collected w.heap.size, args := #[] }], W1, { target := .fn (.func gf) lb, args := #[.func (.yield (w.heap.size + 1)) #[] #[]] }, W1, gf,
    #[.func (.yield (w.heap.size + 1)) #[] #[]] ++ lb, W1, ?_, ?_, ?_, ?_, fun _ => h1, ?_⟩
  · rw [← hW1, hR]; exact run_enterLoop_outer _ _ _ _ _
  · simp only [resolve, hg]
    simp [go_sem]
  · intro f' hf'
    simp [Target.leads] at hf'
    subst hf'
    exact hFg
  · simp [invoke, go_sem, eg]
  · refine (hseq (w.heap.size + 1) (fun pre W => I pre W ∧ W.heap[w.heap.size + 1]? = some (.loop (R .ready none)) ∧ W.heap[w.heap.size]? = some (.deferred (some []))) W1 hb1
      (fun s A B hs hst => ⟨hIs s A B hs.1 hst, hStep A B _ _ hst hs.2.1 rfl, hStep A B _ _ hst hs.2.2 rfl⟩) ?_ ⟨hI1, hrec1, hdef1⟩).mono ?_
    · rintro pre x W ⟨hi, hl, hk⟩ hlen
      have hlt : w.heap.size + 1 < W.heap.size := (Array.getElem?_eq_some_iff.1 hl).1
      have hy := run_yield (P := P) (args := encs x) hl (by rw [hR]; exact hps x)
      rw [hR] at hy
      refine ⟨fn, _, assign, body, hy, roundIn_of_wpIn hfn (hassign _ x W _ ⟨_, run_beginRound hl (by rw [hR]), ?_⟩)⟩
      obtain ⟨W2, hW2⟩ : ∃ W2, W.putObj (w.heap.size + 1) (.loop { R .ready none with state := .busy }) = W2 := ⟨_, rfl⟩
      have hl2 : W2.heap[w.heap.size + 1]? = some (.loop { R .ready none with state := .busy }) := by rw [← hW2]; exact World.putObj_heap_same hlt
      have hk2 : W2.heap[w.heap.size]? = some (.deferred (some [])) := by rw [← hW2]; exact (World.putObj_heap_other (by omega)).trans hk
      have hw2 : Kp W W2 := by rw [← hW2]; exact hKb _ _ _ _ (by omega) hl rfl rfl
      have hi2 : I pre W2 := by rw [← hW2]; exact hIp _ _ _ _ _ hi (by omega) hl rfl
      rw [hW2]
      refine wpIn_mono (hbody _ pre x W2 hi2 hlen) ?_
      rintro e a3 W3 hp
      cases e with
      | normal =>
        obtain ⟨hk3, hkp3, hi3⟩ := hp
        have hl3 := hk3.same _ _ hl2 rfl
        have hd3 := hk3.same _ _ hk2 rfl
        have hr := run_endRound (P := P) none hl3
        refine ⟨_, _, hr, rfl, ⟨hIp _ _ _ _ _ hi3 (by omega) hl3 rfl, ?_, (World.putObj_heap_other (by omega)).trans hd3⟩, hKt (hKt hw2 hkp3) (hKb _ _ _ _ (by omega) hl3 rfl rfl)⟩
        rw [World.putObj_heap_same (Array.getElem?_eq_some_iff.1 hl3).1, hR]
        rfl
      | ret => exact hp.2.elim
      | exit id => exact hp.2.elim
      | goto t => exact hp.2.elim
      | panic ch => exact hp.elim
      | outgrown => exact hp.elim
    · rintro e W2 ⟨⟨v, rfl⟩, xs, hEx, hi, hl, hk⟩
      have hend := run_endLoop (P := P) hl (by rw [hR]; simp)
      have hp : (R .ready none).pending = none := by rw [hR]
      rw [hp] at hend
      exact ⟨none, _, hend, hdone _ xs _ (Nat.le_refl _) (hE _ _ _ _ _ hEx hl rfl) (hIp _ _ _ _ _ hi (by omega) hl rfl) ((World.putObj_heap_other (by omega)).trans hk)⟩
/-- what the loop holds: the least so far, and whether there was one -/
def st (l : List Int) : Int × Bool := l.foldl (fun p x => (if p.2 = false ∨ x < p.1 then x else p.1, true)) (0, false)
theorem st_snoc (l : List Int) (x : Int) : st (l ++ [x]) = (if (st l).2 = false ∨ x < (st l).1 then x else (st l).1, true) := by
  unfold st
  rw [List.foldl_append]
  rfl
theorem Boxed.put {W : World} {B l : Nat} {t : TypeId} {v : Value} {o : Obj} (h : Boxed W B t v) (o' : Obj) (hl : W.heap[l]? = some o) (ho : o.isCells = false) : Boxed (W.putObj l o') B t v := by
  refine h.kept (grownBy_putObj' W l o') ?_
  intro e
  obtain rfl : B = l := Option.some.inj e
  unfold Boxed at h
  rw [h] at hl
  cases hl
  cases ho
set_option maxRecDepth 100000 in
set_option maxHeartbeats 2000000 in
theorem least_in (F : Fence) (n : Nat) (h14 : F.fn 14) (h15 : F.fn 15) (hro : F.round = none) (hn : 3 ≤ n) (Bs G n0 : Nat) (A : Option Addr) (cap : Nat) (zs : List Int) (hlen : zs.length ≤ 200) (w : World)
    (hB : Boxed w Bs 39 (.slice A zs.length cap)) (hG : Boxed w G 3 (.int .i64 0)) (hne : Bs ≠ G) (hn0 : n0 ≤ G)
    (hc : ∀ j, j < zs.length → ∃ ad, A = some ad ∧ ad.block ≠ G ∧ w.cell? (ad.add j) = some (.int .i64 (zs[j]?.getD 0))) :
    CallsIn F n Tryd.prog 14 #[.func (.func 15) #[] #[.pointer (some ⟨Bs, 0, none⟩), .pointer (some ⟨G, 0, none⟩)]] w fun e w' => e = .returned (.tuple #[.int .i64 (st zs).1, .bool (st zs).2]) ∧ Below n0 w w' ∧ Boxed w' Bs 39 (.slice A zs.length cap) ∧ Boxed w' G 3 (.int .i64 zs.length) := by
  have h1 : 1 ≤ n := by omega
  have hBl := hB.lt
  have hGl := hG.lt
  refine callsIn_of_wp_marks Tryd.func14 rfl h14 ?_ hro
  simp only [Tryd.ntmps14, List.size_toArray, List.length_cons, List.length_nil, Nat.reduceAdd, Nat.reduceSub, Array.replicate_succ, Array.replicate_zero, List.push_toArray, List.append_toArray, List.nil_append, List.cons_append]
  gi_wp2
  obtain ⟨w1, hw1⟩ : ∃ w1, (w.alloc (.cells #[.int .i64 0] 2)).alloc (.cells #[.bool false] 4) = w1 := ⟨_, rfl⟩
  have hL1 : Boxed w1 w.heap.size 2 (.int .i64 0) := by rw [← hw1]; exact (Boxed.new w 2 (.int .i64 0)).alloc _
  have hS1 : Boxed w1 (w.heap.size + 1) 4 (.bool false) := by
    rw [← hw1]
    have := Boxed.new (w.alloc (.cells #[.int .i64 0] 2)) 4 (.bool false)
    rwa [World.size_alloc] at this
  have hB1 : Boxed w1 Bs 39 (.slice A zs.length cap) := by rw [← hw1]; exact (hB.alloc _).alloc _
  have hG1 : Boxed w1 G 3 (.int .i64 0) := by rw [← hw1]; exact (hG.alloc _).alloc _
  have hbw : Below w.heap.size w w1 := by rw [← hw1]; exact ((Below.refl _ w).alloc (Nat.le_refl _) _).alloc (by simp) _
  have hsz : w1.heap.size = w.heap.size + 2 := by rw [← hw1]; simp
  have hc1 : ∀ j, j < zs.length → ∃ ad, A = some ad ∧ ad.block < w.heap.size ∧ ad.block ≠ G ∧ w1.cell? (ad.add j) = some (.int .i64 (zs[j]?.getD 0)) := by
    intro j hj
    obtain ⟨ad, e1, e2, e3⟩ := hc j hj
    have hblk : (ad.add j).block = ad.block := by unfold Addr.add; split <;> rfl
    have hlt : ad.block < w.heap.size := by rw [← hblk]; exact World.block_lt_of_cell? w _ e3
    exact ⟨ad, e1, hlt, e2, (hbw.cell (p := ad.add j) (by rw [hblk]; exact hlt)).trans e3⟩
  rw [hw1]
  refine range_steps hro h1 (gf := 15) (lb := #[.pointer (some ⟨Bs, 0, none⟩), .pointer (some ⟨G, 0, none⟩)]) rfl h15 (enters_of Tryd.func15 (by kernel_rfl) rfl)
    (encs := fun x : Int => #[Value.int .i64 x]) (Kp := Below w.heap.size) (Step := fun X Y => ∃ v, Y = X.setCell ⟨G, 0, none⟩ v) (E := fun xs W => xs = zs ∧ Boxed W Bs 39 (.slice A zs.length cap) ∧ Boxed W G 3 (.int .i64 zs.length)) (N := zs.length)
    ?seq ?step belowK_t (belowK_b (by omega)) (fun _ => rfl) ?hE
    (fun pre W => Boxed W w.heap.size 2 (.int .i64 (st pre).1) ∧ Boxed W (w.heap.size + 1) 4 (.bool (st pre).2) ∧ Below n0 w W) ?hIs ?hIp ?hIa ⟨hL1, hS1, hbw.mono (by omega)⟩
    (fun x => { tmps := #[.func (.func 15) #[] #[.pointer (some ⟨Bs, 0, none⟩), .pointer (some ⟨G, 0, none⟩)], undef, .int .i64 0, .bool false, .pointer (some ⟨w.heap.size, 0, none⟩), .pointer (some ⟨w.heap.size + 1, 0, none⟩), .int .i64 x, .func (.func 15) #[] #[.pointer (some ⟨Bs, 0, none⟩), .pointer (some ⟨G, 0, none⟩)], .int .i64 x, undef, undef, undef, undef, undef, undef, undef, undef, undef, undef], defers := [] }) ?assign ?body ?done
  case seq =>
    intro l J W hW hJ hY h0
    refine (iter_in F (n - 1) h15 hro (by omega) l Bs G w.heap.size A cap zs hlen J (fun s W v hs => hJ s W _ hs ⟨v, rfl⟩) hY W (Boxed.under hB1 hW (by omega)) (Boxed.under hG1 hW (by omega)) hBl hGl hne ?_ h0).mono ?_
    · intro j hj
      obtain ⟨ad, e1, e2, e3, e4⟩ := hc1 j hj
      have hblk : (ad.add j).block = ad.block := by unfold Addr.add; split <;> rfl
      exact ⟨ad, e1, e2, e3, (hW.cell (p := ad.add j) (by rw [hblk]; omega)).trans e4⟩
    · rintro e W' ⟨hv, hj, hb, hg⟩
      exact ⟨hv, zs, ⟨rfl, hb, hg⟩, hj⟩
  case step =>
    rintro X Y k o ⟨v, rfl⟩ hk ho
    exact (KeepsOthers.setCell X _ v).same k o hk ho
  case hE =>
    rintro xs W l o o' ⟨rfl, h1, h2⟩ hl ho
    exact ⟨rfl, Boxed.put h1 o' hl ho, Boxed.put h2 o' hl ho⟩
  case hIs =>
    rintro s X Y ⟨h1, h2, h3⟩ ⟨v, rfl⟩
    exact ⟨Boxed.apart h1 (by omega), Boxed.apart h2 (by omega), h3.setCell (p := ⟨G, 0, none⟩) hn0 v⟩
  case hIp =>
    rintro s W l o o' ⟨h1, h2, h3⟩ hle hl ho
    exact ⟨Boxed.put h1 o' hl ho, Boxed.put h2 o' hl ho, h3.grown (grownBy_putObj' W l o') (by have := (Array.getElem?_eq_some_iff.1 hl).1; omega) (fun k e => by cases e; omega)⟩
  case hIa =>
    rintro s W o ⟨h1, h2, h3⟩
    exact ⟨h1.alloc o, h2.alloc o, h3.alloc (by have := h1.lt; omega) o⟩
  case assign =>
    intro l x W K hK
    gi_wp2
    exact hK
  case body =>
    rintro l pre x W ⟨hL, hS, hb⟩ hlen
    have hLc := hL.cell
    have hLf := hL.frozen
    have hSc := hS.cell
    have hSf := hS.frozen
    have hke : ∀ (b1 : Nat) (v1 : Value), KeepsOthers W (W.setCell ⟨b1, 0, none⟩ v1) := fun b1 v1 => KeepsOthers.setCell W _ v1
    have go1 : ∀ (c : Int), Boxed (W.setCell ⟨w.heap.size + 1, 0, none⟩ (.bool true)) w.heap.size 2 (.int .i64 c) → st (pre ++ [x]) = (c, true) →
        KeepsOthers W (W.setCell ⟨w.heap.size + 1, 0, none⟩ (.bool true)) ∧ Below w.heap.size W (W.setCell ⟨w.heap.size + 1, 0, none⟩ (.bool true)) ∧ Boxed (W.setCell ⟨w.heap.size + 1, 0, none⟩ (.bool true)) w.heap.size 2 (.int .i64 (st (pre ++ [x])).1) ∧ Boxed (W.setCell ⟨w.heap.size + 1, 0, none⟩ (.bool true)) (w.heap.size + 1) 4 (.bool (st (pre ++ [x])).2) ∧ Below n0 w (W.setCell ⟨w.heap.size + 1, 0, none⟩ (.bool true)) := by
      intro c hc e
      rw [e]
      exact ⟨hke _ _, (Below.refl _ W).setCell (p := ⟨w.heap.size + 1, 0, none⟩) (by show w.heap.size ≤ w.heap.size + 1; omega) _, hc, hS.set _, hb.setCell (p := ⟨w.heap.size + 1, 0, none⟩) (by show n0 ≤ w.heap.size + 1; omega) _⟩
    have go2 : st (pre ++ [x]) = (x, true) →
        KeepsOthers W ((W.setCell ⟨w.heap.size, 0, none⟩ (.int .i64 x)).setCell ⟨w.heap.size + 1, 0, none⟩ (.bool true)) ∧ Below w.heap.size W ((W.setCell ⟨w.heap.size, 0, none⟩ (.int .i64 x)).setCell ⟨w.heap.size + 1, 0, none⟩ (.bool true)) ∧ Boxed ((W.setCell ⟨w.heap.size, 0, none⟩ (.int .i64 x)).setCell ⟨w.heap.size + 1, 0, none⟩ (.bool true)) w.heap.size 2 (.int .i64 (st (pre ++ [x])).1) ∧ Boxed ((W.setCell ⟨w.heap.size, 0, none⟩ (.int .i64 x)).setCell ⟨w.heap.size + 1, 0, none⟩ (.bool true)) (w.heap.size + 1) 4 (.bool (st (pre ++ [x])).2) ∧ Below n0 w ((W.setCell ⟨w.heap.size, 0, none⟩ (.int .i64 x)).setCell ⟨w.heap.size + 1, 0, none⟩ (.bool true)) := by
      intro e
      rw [e]
      exact ⟨(hke _ _).trans (KeepsOthers.setCell _ _ _), ((Below.refl _ W).setCell (p := ⟨w.heap.size, 0, none⟩) (Nat.le_refl _) _).setCell (p := ⟨w.heap.size + 1, 0, none⟩) (by show w.heap.size ≤ w.heap.size + 1; omega) _, Boxed.apart (hL.set _) (by omega), (Boxed.apart hS (by omega)).set _, (hb.setCell (p := ⟨w.heap.size, 0, none⟩) (by show n0 ≤ w.heap.size; omega) _).setCell (p := ⟨w.heap.size + 1, 0, none⟩) (by show n0 ≤ w.heap.size + 1; omega) _⟩
    have hS2 : Boxed (W.setCell ⟨w.heap.size, 0, none⟩ (.int .i64 x)) (w.heap.size + 1) 4 (.bool (st pre).2) := Boxed.apart hS (by omega)
    have hSf2 := hS2.frozen
    have hSc2 := hS2.cell
    have e := st_snoc pre x
    cases hb0 : (st pre).2 with
    | false =>
      rw [hb0] at hSc e hSc2
      rw [if_pos (.inl rfl)] at e
      gi_wp2
      exact go2 e
    | true =>
      rw [hb0] at hSc e hSc2
      by_cases hx : x < (st pre).1
      · rw [if_pos (.inr hx)] at e
        have hx' : decide (x < (st pre).1) = true := decide_eq_true hx
        gi_wp2
        exact go2 e
      · rw [if_neg (by rintro (h | h); exact Bool.noConfusion h; exact hx h)] at e
        have hx' : decide (x < (st pre).1) = false := decide_eq_false hx
        gi_wp2
        exact go1 _ (Boxed.apart hL (by omega)) e
  case done =>
    rintro D xs W hD ⟨rfl, hB', hG'⟩ ⟨hL, hS, hb⟩ hK
    have hLc := hL.cell
    have hSc := hS.cell
    have hmix : Tryd.prog.follows .mixedOrders = true := by kernel_rfl
    gi_wp2
    gi_region_with_o (fail)
    all_goals gi_wp2
    all_goals
      refine ⟨by simp, .inl ⟨_, _, rfl, run_takeDeferred (w := W.drew) hK, ?_⟩⟩
      refine ⟨_, results_tmp2 rfl _ _ _, rfl, ?_, ?_, ?_⟩
      · exact (hb.trans ((Below.refl n0 W).drew)).grown (grownBy_putObj' W.drew D _) (by have := hb.size; show n0 ≤ W.heap.size; omega) (fun k e => by cases e; omega)
      · exact Boxed.put (W := W.drew) hB' _ hK rfl
      · exact Boxed.put (W := W.drew) hG' _ hK rfl
end Go.Proofs.YtfpfdeechhaheaaDoor.Least
