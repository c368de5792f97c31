/- Whether an automaton began too often. -/
import Derived.Test.YtnoddedgkgkfhaaSvcF
namespace Go.Proofs.Ytnoddedgkgkfhaa.Svc
open Go.RowKit Go.Proofs.YtnoddedgkgkfhaaW.PrintWords Go.Proofs.YtnoddedgkgkfhaaW.PrintLast
attribute [local go_sem] Oper.semAt_some
set_option linter.unusedVariables false
def keepB (e : En) (x : Int) : Bool := decide (e.now < addF x e.ivl)
def lastF (e : En) (l : List Int) : Int := match l.getLast? with | some x => max e.now x | none => e.now
def limitedS (e : En) (s : S) : S × Bool :=
  if (decide (e.burst ≤ 0) || decide (e.ivl ≤ 0)) = true then ({ s with starts := [] }, false)
  else if e.burst ≤ ((s.starts.filter (keepB e)).length : Int) then ({ s with starts := s.starts.filter (keepB e) }, true)
  else ({ s with starts := (s.starts.filter (keepB e) ++ [lastF e (s.starts.filter (keepB e))]).drop ((s.starts.filter (keepB e)).length - 99) }, false)
/-- an automaton's block and what it wants, whatever its row of starts -/
def InvN (w0 W : World) (b : Nat) (e : En) (s : S) (vs vo : Value) : Prop :=
  W.heap[b]? = some (.cells (cellsX e s vs vo) 73 (0, 0)) ∧ W.ownsRow (b + 1) 41 6 vo s.out.length (s.out.flatMap cellsA) ∧ Below b w0 W
theorem InvN.below {w0 W W' : World} {b : Nat} {e : En} {s : S} {vs vo : Value} (h : InvN w0 W b e s vs vo) (hb : Below W.heap.size W W') : InvN w0 W' b e s vs vo := by
  obtain ⟨h1, h2, h4⟩ := h
  have hlt := blk_lt h1
  exact ⟨(hb.block b hlt).trans h1, pw_own_below h2 hb, h4.trans (hb.mono (Nat.le_of_lt hlt))⟩
theorem InvN.set37 {w0 W : World} {b : Nat} {e : En} {s : S} {vs vo : Value} (h : InvN w0 W b e s vs vo) (v : Value) : InvN w0 (W.setCell ⟨b, 37, none⟩ v) b e s v vo := by
  obtain ⟨h1, h2, h4⟩ := h
  have hg := grown_set W ⟨b, 37, none⟩ v
  refine ⟨blk_set h1 37 v, ?_, ?_⟩
  · refine h2.kept hg ?_
    right
    intro e
    have := (h2.lt b e).1
    omega
  · exact h4.grown hg (Nat.le_of_lt (blk_lt h1)) (fun k e => Nat.le_of_eq (Option.some.inj e))
theorem InvN.grown {w0 W W' : World} {b : Nat} {e : En} {s : S} {vs vo : Value} {row : Option Nat} (h : InvN w0 W b e s vs vo) (hg : W.grownBy W' row) (N : Nat) (hr : ∀ k, row = some k → N ≤ k) (hbN : b < N) (hv : ∀ k, vo.ownBlock = some k → k < N) : InvN w0 W' b e s vs vo := by
  obtain ⟨h1, h2, h4⟩ := h
  refine ⟨blk_grown h1 hg ?_, h2.kept hg ?_, h4.grown hg (Nat.le_of_lt (blk_lt h1)) fun k e => ?_⟩
  · intro e
    have := hr b e.symm
    omega
  · by_cases hn : vo.ownBlock = none
    · exact .inl hn
    · right
      intro e
      obtain ⟨k, hk⟩ := Option.ne_none_iff_exists'.1 hn
      rw [hk] at e
      have h5 := hr k e.symm
      have h6 := hv k hk
      omega
  · have := hr k e
    omega
theorem InvN.inv {w0 W : World} {b : Nat} {e : En} {s : S} {vs vo : Value} {l : List Int} (h : InvN w0 W b e s vs vo) (hr : RowI W b vo vs l) : Inv w0 W b e { s with starts := l } := ⟨vs, vo, h.1, h.2.1, hr, h.2.2⟩
/-- a row of one's own, from an element on, is read as a row of starts -/
theorem row_of {W : World} {b N m : Nat} {vo v : Value} {xs : List Int} (h : W.ownsRow N 2 1 v m (xs.map (Value.int .i64))) (hx : xs.length = m) (hb : b < N) (hv : ∀ k, vo.ownBlock = some k → k < N) : RowI W b vo v xs := by
  subst hx
  have h0 := h
  rcases h.2 with ⟨h1, h2⟩ | ⟨g, cap, cur, h1, h2, h3, h4, _⟩
  · exact .inl ⟨h1, by simpa using h2⟩
  · subst h1
    refine .inr ⟨⟨g, 0, none⟩, cap, rfl, h4, by show b < g; omega, fun e => ?_, (h0.lt g rfl).2, fun j u hj => h0.cells rfl j _ (by rw [List.getElem?_map, hj]; rfl)⟩
    have := hv g e
    omega
theorem row_of_tail {W : World} {b N m g cap : Nat} {vo : Value} {xs : List Int} (h : W.ownsRow N 2 1 (.slice (some ⟨g, 0, none⟩) m cap) m (xs.map (Value.int .i64))) (hx : xs.length = m) (hb : b < N) (hv : ∀ k, vo.ownBlock = some k → k < N) (k : Nat) (hk : k < m) (hm : m ≤ cap) : RowI W b vo (.slice (some ((⟨g, 0, none⟩ : Addr).add k)) (m - k) (cap - k)) (xs.drop k) := by
  subst hx
  have hl := h.lt g rfl
  refine .inr ⟨(⟨g, 0, none⟩ : Addr).add k, cap - k, by rw [List.length_drop], by rw [List.length_drop]; omega, by rw [block_add]; show b < g; omega, fun e => ?_, by rw [block_add]; exact hl.2, fun j u hj => ?_⟩
  · rw [block_add] at e
    have := hv g e
    omega
  · have h5 := h.cells (g := g) rfl (k + j) (.int .i64 u) (by rw [List.getElem?_map, ← List.getElem?_drop, hj]; rfl)
    have e1 : ((⟨g, 0, none⟩ : Addr).add k).add j = (⟨g, 0, none⟩ : Addr).add (k + j) := by
      have e2 : ∀ (a n : Nat), (⟨g, a, none⟩ : Addr).add n = ⟨g, a + n, none⟩ := by intro a n; unfold Addr.add; split <;> simp_all
      rw [e2, e2, e2, Nat.zero_add, Nat.zero_add]
    rw [e1]
    exact h5
theorem InvN.fr {w0 W : World} {b : Nat} {e : En} {s : S} {vs vo : Value} (h : InvN w0 W b e s vs vo) : ∀ i, W.frozen? ⟨b, i, none⟩ = false := fun i => by simp [World.frozen?, h.1]
theorem InvN.c37 {w0 W : World} {b : Nat} {e : En} {s : S} {vs vo : Value} (h : InvN w0 W b e s vs vo) : W.cell? ⟨b, 37, none⟩ = some vs := (blk_cell h.1 37).trans rfl
theorem InvN.alloc' {w0 W : World} {b : Nat} {e : En} {s : S} {vs vo : Value} (h : InvN w0 W b e s vs vo) (o : Obj) : InvN w0 (W.alloc o) b e s vs vo := h.below ((Below.refl _ _).alloc (Nat.le_refl _) _)
theorem own_cap {W : World} {N n c : Nat} {a : Addr} {xs : List Value} (h : W.ownsRow N 2 1 (.slice (some a) n c) n xs) : n ≤ c := by
  rcases h.2 with ⟨h1, h2⟩ | ⟨g, cap, cur, h1, h2, h3, h4, _⟩
  · injection h1 with e1; cases e1
  · injection h1 with e1 e2 e3
    omega
theorem filter_snoc (e : En) (l : List Int) (k : Nat) (x : Int) (h : l[k]? = some x) : (l.take (k + 1)).filter (keepB e) = (l.take k).filter (keepB e) ++ (if keepB e x = true then [x] else []) := by
  have hk : k < l.length := (List.getElem?_eq_some_iff.1 h).1
  have hx : l[k] = x := (List.getElem?_eq_some_iff.1 h).2
  rw [List.take_succ_eq_append_getElem hk, List.filter_append, hx]
  by_cases hb : keepB e x = true
  · rw [if_pos hb]; simp [hb]
  · rw [if_neg hb]; simp [hb]
/-- what the loop over the starts keeps -/
def LRel (W0 : World) (e : En) (xs : List Int) (wr : World) (v i : Value) : Prop :=
  ∃ k : Nat, k ≤ xs.length ∧ i = .int .i64 k ∧ wr.ownsRow W0.heap.size 2 1 v ((xs.take k).filter (keepB e)).length (((xs.take k).filter (keepB e)).map (Value.int .i64)) ∧ Below W0.heap.size W0 wr
theorem info2 : (Try.prog.info? 2).map (fun i => (i.zero, i.size, i.bytes)) = some (some (.int .i64 0), 1, 8) := by kernel_rfl
theorem cell_one_new (w : World) (v : Value) (t : TypeId) : ∀ j u, [v][j]? = some u → (w.alloc (.cells #[v] t)).cell? ((⟨w.heap.size, 0, none⟩ : Addr).add j) = some u := by
  intro j u hj
  have hb : (w.alloc (.cells #[v] t)).heap[w.heap.size]? = some (.cells #[v] t) := World.alloc_heap_new w _
  match j, hj with
  | 0, hj => obtain rfl := Option.some.inj hj; show World.cell? _ ⟨w.heap.size, 0 + 0, none⟩ = _; unfold World.cell?; rw [hb]; rfl
theorem keep2 {W0 X : World} {b : Nat} {e : En} (hb : Below W0.heap.size W0 X) (hlt : b < W0.heap.size) (h1 : W0.cell? ⟨b, 22, none⟩ = some (.int .i64 e.ivl)) (h2 : W0.cell? ⟨b, 45, none⟩ = some (.int .i64 e.now)) :
    X.cell? ⟨b, 22, none⟩ = some (.int .i64 e.ivl) ∧ X.cell? ⟨b, 45, none⟩ = some (.int .i64 e.now) :=
  ⟨(hb.cell (p := ⟨b, 22, none⟩) hlt).trans h1, (hb.cell (p := ⟨b, 45, none⟩) hlt).trans h2⟩
theorem nsm (k n : Nat) (h : k < n) : n - ((k : Int) + 1).toNat < n - ((k : Int)).toNat := by omega
theorem nsk (k : Nat) : Value.int .i64 ((k : Int) + 1) = Value.int .i64 ((k + 1 : Nat) : Int) := rfl
theorem max2I (k k' : IntKind) (x y : Int) : Builtin.max2 (.int k x) (.int k' y) = pure (.int k (if x < y then y else x)) := by simp only [Builtin.max2, gt_iff_lt]
theorem maxTwo (ats : Array TypeId) (ty : TypeId) (a b : Value) : Builtin.max_ ats ty #[a, b] = (Builtin.max2 a b >>= fun s => pure s) := by simp only [Builtin.max_, List.foldlM_cons, List.foldlM_nil]
attribute [local go_sem] max2I maxTwo
variable {w0 W : World} {b : Nat} {e : En} {s : S}
set_option maxRecDepth 100000
set_option maxHeartbeats 2000000
theorem limited_calls (hI : Inv w0 W b e s) (hs : s.starts.length ≤ 100) :
    Calls Try.prog 65 #[.pointer (some ⟨b, 0, none⟩)] W fun e' W' => e' = .returned (.bool (limitedS e s).2) ∧ Inv w0 W' b e (limitedS e s).1 := by
  have hI0 := hI
  obtain ⟨vs, vo, h1, h2, h3, h4⟩ := hI
  have hlt := blk_lt h1
  have fr : ∀ i, W.frozen? ⟨b, i, none⟩ = false := fun i => by simp [World.frozen?, h1]
  have c21 : W.cell? ⟨b, 21, none⟩ = some (.int .i64 e.burst) := (blk_cell h1 21).trans rfl
  have c22 : W.cell? ⟨b, 22, none⟩ = some (.int .i64 e.ivl) := (blk_cell h1 22).trans rfl
  have c37 : W.cell? ⟨b, 37, none⟩ = some vs := (blk_cell h1 37).trans rfl
  have c45 : W.cell? ⟨b, 45, none⟩ = some (.int .i64 e.now) := (blk_cell h1 45).trans rfl
  have hN : InvN w0 W b e s vs vo := ⟨h1, h2, h4⟩
  have hvo : ∀ k, vo.ownBlock = some k → k < W.heap.size := fun k hk => (h2.lt k hk).2
  unfold limitedS
  cases d1 : decide (e.burst ≤ 0) with
  | true =>
    rw [Bool.true_or, if_pos rfl]
    go_enter Try.func65, Try.ntmps65
    go_wp2
    go_ret
    exact ⟨rfl, (hN.set37 (.slice none 0 0)).inv (.inl ⟨rfl, rfl⟩)⟩
  | false =>
    cases d2 : decide (e.ivl ≤ 0) with
    | true =>
      rw [Bool.false_or, if_pos rfl]
      go_enter Try.func65, Try.ntmps65
      go_wp2
      go_ret
      exact ⟨rfl, (hN.set37 (.slice none 0 0)).inv (.inl ⟨rfl, rfl⟩)⟩
    | false =>
      rw [Bool.false_or, if_neg (by decide)]
      obtain ⟨i0, hi, hz0, hz1, hz2⟩ := info_parts info2
      have hsl : ∃ A c, vs = .slice A s.starts.length c ∧ ∀ k x, s.starts[k]? = some x → ∃ ad, A = some ad ∧ ad.block < W.heap.size ∧ W.cell? (ad.add k) = some (.int .i64 x) := by
        rcases h3 with ⟨rfl, h⟩ | ⟨ad, c, rfl, h3, h5, h6, h7, h8⟩
        · exact ⟨none, 0, by rw [h]; rfl, fun k x hk => by rw [h] at hk; simp at hk⟩
        · exact ⟨some ad, c, rfl, fun k x hk => ⟨ad, rfl, h7, h8 k x hk⟩⟩
      obtain ⟨A, c, rfl, hA⟩ := hsl
      have HA := Aside0.mk hA
      have HN := Aside0.mk hN
      have HV := Aside0.mk hvo
      clear hA hN hvo h1 h2 h3 h4 hI0
      have hlf : (s.starts.filter (keepB e)).length ≤ 100 := Nat.le_trans (List.length_filter_le _ _) hs
      obtain ⟨L, hL⟩ : ∃ L, s.starts.filter (keepB e) = L := ⟨_, rfl⟩
      rw [hL] at hlf ⊢
      have HL := Aside0.mk hL
      have HLF := Aside0.mk hlf
      clear hL hlf
      by_cases hq : e.burst ≤ (L.length : Int)
      · rw [if_pos hq]
        have hqd : decide (e.burst ≤ (L.length : Int)) = true := decide_eq_true hq
        clear hq
        go_enter Try.func65, Try.ntmps65
        go_wp2
        go_loopw [3, 5, 31] (fun v _ i wr => LRel W e s.starts wr v i) (fun _ _ i _ => s.starts.length - (intOf i).toNat)
        case atStart => exact ⟨0, Nat.zero_le _, rfl, World.ownsRow_nil .., Below.refl _ _⟩
        case round =>
          obtain ⟨k, hk, rfl, hrow, hbw⟩ := hrel
          by_cases hltk : k < s.starts.length
          · have hx : s.starts[k]? = some s.starts[k] := List.getElem?_eq_getElem hltk
            obtain ⟨ad, hAe, hblk, hcell⟩ := HA.out k _ hx
            subst hAe
            have hfs := filter_snoc e s.starts k _ hx
            obtain ⟨x, hxe⟩ : ∃ x, s.starts[k] = x := ⟨_, rfl⟩
            rw [hxe] at hcell hfs
            clear hx hxe
            have hcr : wr.cell? (ad.add k) = some (.int .i64 x) := (hbw.cell (p := ad.add k) (by rw [block_add]; exact hblk)).trans hcell
            have hkp := fun (X : World) (hX : Below W.heap.size W X) => keep2 (e := e) hX hlt c22 c45
            obtain ⟨q1, q2⟩ := hkp wr hbw
            have hbd := hbw.drew
            have hlf : ((s.starts.take k).filter (keepB e)).length ≤ 100 := Nat.le_trans (List.length_filter_le _ _) (Nat.le_trans (List.length_take_le _ _) (by omega))
            obtain ⟨L2, hL⟩ : ∃ L2, (s.starts.take k).filter (keepB e) = L2 := ⟨_, rfl⟩
            rw [hL] at hfs hrow hlf
            have HFS := Aside0.mk hfs
            clear hfs hL hcell
            cases hd : keepB e x with
            | true =>
              have hd2 : decide (e.now < addF x e.ivl) = true := hd
              have HFS2 := HFS.out
              rw [hd, if_pos rfl] at HFS2
              have HFS3 := Aside0.mk HFS2
              clear hd HFS HFS2
              have hlen1 : L2.length + 1 ≤ maxLen := Nat.le_trans (Nat.succ_le_succ hlf) (by decide)
              have hlen2 : (L2.length + 1) * 8 ≤ 140737488355328 := Nat.le_trans (Nat.mul_le_mul_right 8 (Nat.succ_le_succ hlf)) (by decide)
              go_wp2
              go_region_held3 (fun w' => w'.cell? ⟨b, 22, none⟩ = some (.int .i64 e.ivl) ∧ w'.cell? ⟨b, 45, none⟩ = some (.int .i64 e.now)) ((first | exact hkp _ hbd | exact hkp _ (pw_below_drewN hbw _))) ((go_at_call 70; refine (span_Add.calls 5 _ _ _ _ (addF_some _ _)).mono ?_; rintro e' w1 ⟨rfl, nd, rfl⟩))
              have hrd := Aside0.mk (pw_own_below hrow (pw_below_drewN (Below.refl _ _) (1 + nd)))
              have hbn := Aside0.mk (pw_below_drewN hbw (1 + nd))
              go_wp2_with (at_builtin; refine wpList_append_own _ rfl _ _ 28 rfl W.heap.size 2 i0 (.int .i64 0) 1 8 Try.underlying28 hi hz0 hz1 hz2 rfl (by decide) _ _ _ rfl (hrd.out.alloc _) ⟨wr.heap.size, 0, none⟩ 1 1 [.int .i64 x] rfl rfl (cell_one_new (wr.drewN (1 + nd)) _ 2) (by simp [Value.oneCell']) hlen1 hlen2 (Nat.le_trans hbn.out.size (World.grownBy_alloc _ _ none).size) ?_; intro v' w2 hown' hgrow _)
              exact ⟨⟨k + 1, hltk, nsk k, by rw [HFS3.out, List.length_append, List.length_singleton, List.map_append]; exact hown', (hbn.out.alloc hbn.out.size _).grown hgrow (Nat.le_trans hbn.out.size (World.grownBy_alloc _ _ none).size) (fun k e => (hrow.lt k e).1)⟩, nsm k _ hltk⟩
            | false =>
              have hd2 : decide (e.now < addF x e.ivl) = false := hd
              have HFS2 := HFS.out
              rw [hd, if_neg (by decide), List.append_nil] at HFS2
              have HFS3 := Aside0.mk HFS2
              clear hd HFS HFS2
              go_wp2
              go_region_held3 (fun w' => w'.cell? ⟨b, 22, none⟩ = some (.int .i64 e.ivl) ∧ w'.cell? ⟨b, 45, none⟩ = some (.int .i64 e.now)) ((first | exact hkp _ hbd | exact hkp _ (pw_below_drewN hbw _))) ((go_at_call 70; refine (span_Add.calls 5 _ _ _ _ (addF_some _ _)).mono ?_; rintro e' w1 ⟨rfl, nd, rfl⟩))
              go_wp2
              exact ⟨⟨k + 1, hltk, nsk k, by rw [HFS3.out]; exact pw_own_below hrow (pw_below_drewN (Below.refl _ _) (1 + nd)), pw_below_drewN hbw (1 + nd)⟩, nsm k _ hltk⟩
          · obtain rfl : k = s.starts.length := by omega
            rw [List.take_length, HL.out] at hrow
            have HR := Aside0.mk hrow
            obtain ⟨A2, c2, rfl⟩ := own_slice hrow
            have k21 : wr.cell? ⟨b, 21, none⟩ = some (.int .i64 e.burst) := (hbw.cell (p := ⟨b, 21, none⟩) hlt).trans c21
            have k45 : wr.cell? ⟨b, 45, none⟩ = some (.int .i64 e.now) := (hbw.cell (p := ⟨b, 45, none⟩) hlt).trans c45
            have k37 := (hbw.cell (p := ⟨b, 37, none⟩) hlt).trans c37
            have kfr : ∀ i, wr.frozen? ⟨b, i, none⟩ = false := fun i => (hbw.frozen (p := ⟨b, i, none⟩) hlt).trans (fr i)
            have hNr := Aside0.mk (HN.out.below hbw)
            clear hrow
            go_wp2
            go_ret
            have hg := grown_set wr ⟨b, 37, none⟩ (.slice A2 L.length c2)
            exact ⟨rfl, (hNr.out.set37 _).inv (row_of (HR.out.kept hg (.inr (fun e => by have := (HR.out.lt b e).1; omega))) rfl hlt HV.out)⟩
      · rw [if_neg hq]
        by_cases hz : L.length = 0
        · obtain rfl : L = [] := List.length_eq_zero_iff.1 hz
          have hqd : decide (e.burst ≤ (0 : Int)) = false := decide_eq_false hq
          clear hq hz
          have hlen1 : 0 + 1 ≤ maxLen := by decide
          have hlen2 : (0 + 1) * 8 ≤ 140737488355328 := by decide
          go_enter Try.func65, Try.ntmps65
          go_wp2
          go_loopw [3, 5, 31] (fun v _ i wr => LRel W e s.starts wr v i) (fun _ _ i _ => s.starts.length - (intOf i).toNat)
          case atStart => exact ⟨0, Nat.zero_le _, rfl, World.ownsRow_nil .., Below.refl _ _⟩
          case round =>
            obtain ⟨k, hk, rfl, hrow, hbw⟩ := hrel
            by_cases hltk : k < s.starts.length
            · have hx : s.starts[k]? = some s.starts[k] := List.getElem?_eq_getElem hltk
              obtain ⟨ad, hAe, hblk, hcell⟩ := HA.out k _ hx
              subst hAe
              have hfs := filter_snoc e s.starts k _ hx
              obtain ⟨x, hxe⟩ : ∃ x, s.starts[k] = x := ⟨_, rfl⟩
              rw [hxe] at hcell hfs
              clear hx hxe
              have hcr : wr.cell? (ad.add k) = some (.int .i64 x) := (hbw.cell (p := ad.add k) (by rw [block_add]; exact hblk)).trans hcell
              have hkp := fun (X : World) (hX : Below W.heap.size W X) => keep2 (e := e) hX hlt c22 c45
              obtain ⟨q1, q2⟩ := hkp wr hbw
              have hbd := hbw.drew
              have hlf : ((s.starts.take k).filter (keepB e)).length ≤ 100 := Nat.le_trans (List.length_filter_le _ _) (Nat.le_trans (List.length_take_le _ _) (by omega))
              obtain ⟨L2, hL⟩ : ∃ L2, (s.starts.take k).filter (keepB e) = L2 := ⟨_, rfl⟩
              rw [hL] at hfs hrow hlf
              have HFS := Aside0.mk hfs
              clear hfs hL hcell
              cases hd : keepB e x with
              | true =>
                have hd2 : decide (e.now < addF x e.ivl) = true := hd
                have HFS2 := HFS.out
                rw [hd, if_pos rfl] at HFS2
                have HFS3 := Aside0.mk HFS2
                clear hd HFS HFS2
                have hlen1 : L2.length + 1 ≤ maxLen := Nat.le_trans (Nat.succ_le_succ hlf) (by decide)
                have hlen2 : (L2.length + 1) * 8 ≤ 140737488355328 := Nat.le_trans (Nat.mul_le_mul_right 8 (Nat.succ_le_succ hlf)) (by decide)
                go_wp2
                go_region_held3 (fun w' => w'.cell? ⟨b, 22, none⟩ = some (.int .i64 e.ivl) ∧ w'.cell? ⟨b, 45, none⟩ = some (.int .i64 e.now)) ((first | exact hkp _ hbd | exact hkp _ (pw_below_drewN hbw _))) ((go_at_call 70; refine (span_Add.calls 5 _ _ _ _ (addF_some _ _)).mono ?_; rintro e' w1 ⟨rfl, nd, rfl⟩))
                have hrd := Aside0.mk (pw_own_below hrow (pw_below_drewN (Below.refl _ _) (1 + nd)))
                have hbn := Aside0.mk (pw_below_drewN hbw (1 + nd))
                go_wp2_with (at_builtin; refine wpList_append_own _ rfl _ _ 28 rfl W.heap.size 2 i0 (.int .i64 0) 1 8 Try.underlying28 hi hz0 hz1 hz2 rfl (by decide) _ _ _ rfl (hrd.out.alloc _) ⟨wr.heap.size, 0, none⟩ 1 1 [.int .i64 x] rfl rfl (cell_one_new (wr.drewN (1 + nd)) _ 2) (by simp [Value.oneCell']) hlen1 hlen2 (Nat.le_trans hbn.out.size (World.grownBy_alloc _ _ none).size) ?_; intro v' w2 hown' hgrow _)
                exact ⟨⟨k + 1, hltk, nsk k, by rw [HFS3.out, List.length_append, List.length_singleton, List.map_append]; exact hown', (hbn.out.alloc hbn.out.size _).grown hgrow (Nat.le_trans hbn.out.size (World.grownBy_alloc _ _ none).size) (fun k e => (hrow.lt k e).1)⟩, nsm k _ hltk⟩
              | false =>
                have hd2 : decide (e.now < addF x e.ivl) = false := hd
                have HFS2 := HFS.out
                rw [hd, if_neg (by decide), List.append_nil] at HFS2
                have HFS3 := Aside0.mk HFS2
                clear hd HFS HFS2
                go_wp2
                go_region_held3 (fun w' => w'.cell? ⟨b, 22, none⟩ = some (.int .i64 e.ivl) ∧ w'.cell? ⟨b, 45, none⟩ = some (.int .i64 e.now)) ((first | exact hkp _ hbd | exact hkp _ (pw_below_drewN hbw _))) ((go_at_call 70; refine (span_Add.calls 5 _ _ _ _ (addF_some _ _)).mono ?_; rintro e' w1 ⟨rfl, nd, rfl⟩))
                go_wp2
                exact ⟨⟨k + 1, hltk, nsk k, by rw [HFS3.out]; exact pw_own_below hrow (pw_below_drewN (Below.refl _ _) (1 + nd)), pw_below_drewN hbw (1 + nd)⟩, nsm k _ hltk⟩
            · obtain rfl : k = s.starts.length := by omega
              rw [List.take_length, HL.out] at hrow
              have HR := Aside0.mk hrow
              obtain ⟨A2, c2, rfl⟩ := own_slice hrow
              have k21 : wr.cell? ⟨b, 21, none⟩ = some (.int .i64 e.burst) := (hbw.cell (p := ⟨b, 21, none⟩) hlt).trans c21
              have k45 : wr.cell? ⟨b, 45, none⟩ = some (.int .i64 e.now) := (hbw.cell (p := ⟨b, 45, none⟩) hlt).trans c45
              have k37 := (hbw.cell (p := ⟨b, 37, none⟩) hlt).trans c37
              have kfr : ∀ i, wr.frozen? ⟨b, i, none⟩ = false := fun i => (hbw.frozen (p := ⟨b, i, none⟩) hlt).trans (fr i)
              have hNr := Aside0.mk (HN.out.below hbw)
              clear hrow
              have hg := grown_set wr ⟨b, 37, none⟩ (.slice A2 0 c2)
              have HR1 := Aside0.mk (HR.out.kept hg (.inr (fun e => by have := (HR.out.lt b e).1; omega)))
              have hNs := Aside0.mk (hNr.out.set37 (.slice A2 0 c2))
              have hbs : W.heap.size ≤ (wr.setCell ⟨b, 37, none⟩ (.slice A2 0 c2)).heap.size := Nat.le_trans hbw.size hg.size
              have hsz : (wr.setCell ⟨b, 37, none⟩ (.slice A2 0 c2)).heap.size = wr.heap.size := by simp [World.setCell]
              have hcn := cell_one_new (wr.setCell ⟨b, 37, none⟩ (.slice A2 0 c2)) (.int .i64 e.now) 2
              rw [hsz] at hcn
              clear hg hsz
              go_wp2_with (at_builtin; refine wpList_append_lies _ rfl _ _ 28 rfl W.heap.size 2 i0 (.int .i64 0) 1 8 Try.underlying28 hi hz0 hz1 hz2 rfl (by decide) _ _ _ rfl (HR1.out.alloc _) ⟨wr.heap.size, 0, none⟩ 1 1 [.int .i64 e.now] rfl rfl (hcn) (by simp [Value.oneCell']) (by decide) hlen1 hlen2 (Nat.le_trans hbs (World.grownBy_alloc _ _ none).size) _ rfl ?_; intro g cap w2 hown' hgrow hlies hg2; have hN2 := Aside0.mk ((hNs.out.alloc' _).grown hgrow W.heap.size (fun k e => (HR1.out.lt k e).1) hlt HV.out); have hfr2 := hN2.out.fr; have k372 := hN2.out.c37; have hO := Aside0.mk hown'; clear hown' hgrow hlies)
              go_ret
              have hg3 := grown_set w2 ⟨b, 37, none⟩ (.slice (some ⟨g, 0, none⟩) (0 + 1) cap)
              exact ⟨rfl, (hN2.out.set37 _).inv (row_of (xs := [e.now]) (hO.out.kept hg3 (.inr (fun e => by have := (hO.out.lt b e).1; omega))) (rfl) hlt HV.out)⟩
        · obtain ⟨m, hm⟩ : ∃ m, L.length = m + 1 := ⟨L.length - 1, by omega⟩
          have hxm : L[m]? = some (L[m]'(by omega)) := List.getElem?_eq_getElem (by omega)
          obtain ⟨x, hxe⟩ : ∃ x, L[m]'(by omega) = x := ⟨_, rfl⟩
          rw [hxe] at hxm
          clear hxe hz
          have hM : lastF e L = max e.now x := by
            unfold lastF
            rw [List.getLast?_eq_getElem?, hm, show m + 1 - 1 = m from rfl, hxm]
          have HX := Aside0.mk hxm
          have HMM := Aside0.mk hM
          clear hxm hM
          have hqd : decide (e.burst ≤ ((m + 1 : Nat) : Int)) = false := decide_eq_false (by rw [← hm]; exact hq)
          clear hq
          have hlen1 : m + 1 + 1 ≤ maxLen := Nat.le_trans (Nat.succ_le_succ (by rw [← hm]; exact HLF.out)) (by decide)
          have hlen2 : (m + 1 + 1) * 8 ≤ 140737488355328 := Nat.le_trans (Nat.mul_le_mul_right 8 (Nat.succ_le_succ (by rw [← hm]; exact HLF.out))) (by decide)
          have HM := Aside0.mk hm
          have hqd2 : decide (e.burst ≤ (m : Int) + 1) = false := hqd
          clear hm
          go_enter Try.func65, Try.ntmps65
          go_wp2
          go_loopw [3, 5, 31] (fun v _ i wr => LRel W e s.starts wr v i) (fun _ _ i _ => s.starts.length - (intOf i).toNat)
          case atStart => exact ⟨0, Nat.zero_le _, rfl, World.ownsRow_nil .., Below.refl _ _⟩
          case round =>
            obtain ⟨k, hk, rfl, hrow, hbw⟩ := hrel
            by_cases hltk : k < s.starts.length
            · have hx : s.starts[k]? = some s.starts[k] := List.getElem?_eq_getElem hltk
              obtain ⟨ad, hAe, hblk, hcell⟩ := HA.out k _ hx
              subst hAe
              have hfs := filter_snoc e s.starts k _ hx
              obtain ⟨x, hxe⟩ : ∃ x, s.starts[k] = x := ⟨_, rfl⟩
              rw [hxe] at hcell hfs
              clear hx hxe
              have hcr : wr.cell? (ad.add k) = some (.int .i64 x) := (hbw.cell (p := ad.add k) (by rw [block_add]; exact hblk)).trans hcell
              have hkp := fun (X : World) (hX : Below W.heap.size W X) => keep2 (e := e) hX hlt c22 c45
              obtain ⟨q1, q2⟩ := hkp wr hbw
              have hbd := hbw.drew
              have hlf : ((s.starts.take k).filter (keepB e)).length ≤ 100 := Nat.le_trans (List.length_filter_le _ _) (Nat.le_trans (List.length_take_le _ _) (by omega))
              obtain ⟨L2, hL⟩ : ∃ L2, (s.starts.take k).filter (keepB e) = L2 := ⟨_, rfl⟩
              rw [hL] at hfs hrow hlf
              have HFS := Aside0.mk hfs
              clear hfs hL hcell
              cases hd : keepB e x with
              | true =>
                have hd2 : decide (e.now < addF x e.ivl) = true := hd
                have HFS2 := HFS.out
                rw [hd, if_pos rfl] at HFS2
                have HFS3 := Aside0.mk HFS2
                clear hd HFS HFS2
                have hlen1 : L2.length + 1 ≤ maxLen := Nat.le_trans (Nat.succ_le_succ hlf) (by decide)
                have hlen2 : (L2.length + 1) * 8 ≤ 140737488355328 := Nat.le_trans (Nat.mul_le_mul_right 8 (Nat.succ_le_succ hlf)) (by decide)
                go_wp2
                go_region_held3 (fun w' => w'.cell? ⟨b, 22, none⟩ = some (.int .i64 e.ivl) ∧ w'.cell? ⟨b, 45, none⟩ = some (.int .i64 e.now)) ((first | exact hkp _ hbd | exact hkp _ (pw_below_drewN hbw _))) ((go_at_call 70; refine (span_Add.calls 5 _ _ _ _ (addF_some _ _)).mono ?_; rintro e' w1 ⟨rfl, nd, rfl⟩))
                have hrd := Aside0.mk (pw_own_below hrow (pw_below_drewN (Below.refl _ _) (1 + nd)))
                have hbn := Aside0.mk (pw_below_drewN hbw (1 + nd))
                go_wp2_with (at_builtin; refine wpList_append_own _ rfl _ _ 28 rfl W.heap.size 2 i0 (.int .i64 0) 1 8 Try.underlying28 hi hz0 hz1 hz2 rfl (by decide) _ _ _ rfl (hrd.out.alloc _) ⟨wr.heap.size, 0, none⟩ 1 1 [.int .i64 x] rfl rfl (cell_one_new (wr.drewN (1 + nd)) _ 2) (by simp [Value.oneCell']) hlen1 hlen2 (Nat.le_trans hbn.out.size (World.grownBy_alloc _ _ none).size) ?_; intro v' w2 hown' hgrow _)
                exact ⟨⟨k + 1, hltk, nsk k, by rw [HFS3.out, List.length_append, List.length_singleton, List.map_append]; exact hown', (hbn.out.alloc hbn.out.size _).grown hgrow (Nat.le_trans hbn.out.size (World.grownBy_alloc _ _ none).size) (fun k e => (hrow.lt k e).1)⟩, nsm k _ hltk⟩
              | false =>
                have hd2 : decide (e.now < addF x e.ivl) = false := hd
                have HFS2 := HFS.out
                rw [hd, if_neg (by decide), List.append_nil] at HFS2
                have HFS3 := Aside0.mk HFS2
                clear hd HFS HFS2
                go_wp2
                go_region_held3 (fun w' => w'.cell? ⟨b, 22, none⟩ = some (.int .i64 e.ivl) ∧ w'.cell? ⟨b, 45, none⟩ = some (.int .i64 e.now)) ((first | exact hkp _ hbd | exact hkp _ (pw_below_drewN hbw _))) ((go_at_call 70; refine (span_Add.calls 5 _ _ _ _ (addF_some _ _)).mono ?_; rintro e' w1 ⟨rfl, nd, rfl⟩))
                go_wp2
                exact ⟨⟨k + 1, hltk, nsk k, by rw [HFS3.out]; exact pw_own_below hrow (pw_below_drewN (Below.refl _ _) (1 + nd)), pw_below_drewN hbw (1 + nd)⟩, nsm k _ hltk⟩
            · obtain rfl : k = s.starts.length := by omega
              rw [List.take_length, HL.out] at hrow
              rw [HM.out] at hrow
              have HR := Aside0.mk hrow
              obtain ⟨g2, c2, rfl, hgb, _⟩ := hrow.form (Nat.succ_pos _)
              have k21 : wr.cell? ⟨b, 21, none⟩ = some (.int .i64 e.burst) := (hbw.cell (p := ⟨b, 21, none⟩) hlt).trans c21
              have k45 : wr.cell? ⟨b, 45, none⟩ = some (.int .i64 e.now) := (hbw.cell (p := ⟨b, 45, none⟩) hlt).trans c45
              have k37 := (hbw.cell (p := ⟨b, 37, none⟩) hlt).trans c37
              have kfr : ∀ i, wr.frozen? ⟨b, i, none⟩ = false := fun i => (hbw.frozen (p := ⟨b, i, none⟩) hlt).trans (fr i)
              have hNr := Aside0.mk (HN.out.below hbw)
              clear hrow
              have hg := grown_set wr ⟨b, 37, none⟩ (.slice (some ⟨g2, 0, none⟩) (m + 1) c2)
              have HR1 := Aside0.mk (HR.out.kept hg (.inr (fun e => by have := (HR.out.lt b e).1; omega)))
              have hNs := Aside0.mk (hNr.out.set37 (.slice (some ⟨g2, 0, none⟩) (m + 1) c2))
              have hbs : W.heap.size ≤ (wr.setCell ⟨b, 37, none⟩ (.slice (some ⟨g2, 0, none⟩) (m + 1) c2)).heap.size := Nat.le_trans hbw.size hg.size
              have hsz : (wr.setCell ⟨b, 37, none⟩ (.slice (some ⟨g2, 0, none⟩) (m + 1) c2)).heap.size = wr.heap.size := by simp [World.setCell]
              have hcn1 := fun v => cell_one_new (wr.setCell ⟨b, 37, none⟩ (.slice (some ⟨g2, 0, none⟩) (m + 1) c2)) (.int .i64 v) 2
              simp only [hsz] at hcn1
              have HCN := Aside0.mk hcn1
              have hx1 : (wr.setCell ⟨b, 37, none⟩ (.slice (some ⟨g2, 0, none⟩) (m + 1) c2)).cell? ⟨g2, m, none⟩ = some (.int .i64 x) := by
                have := HR1.out.cells (g := g2) rfl m (.int .i64 x) (by rw [List.getElem?_map, HX.out]; rfl)
                rwa [show (⟨g2, 0, none⟩ : Addr).add m = ⟨g2, m, none⟩ by unfold Addr.add; split <;> simp_all] at this
              have hm99 : m ≤ 99 := by have := HLF.out; have := HM.out; omega
              have hlenL := HM.out
              have HLL := Aside0.mk hlenL
              clear hg hsz hcn1 hlenL
              by_cases hnx : e.now < x
              · have hMx : lastF e L = x := by rw [HMM.out]; omega
                have HMX := Aside0.mk hMx
                clear hMx
                by_cases h97 : m ≤ 97
                · have h97' : (m : Int) ≤ 97 := by omega
                  go_wp2_with (at_builtin; refine wpList_append_lies _ rfl _ _ 28 rfl W.heap.size 2 i0 (.int .i64 0) 1 8 Try.underlying28 hi hz0 hz1 hz2 rfl (by decide) _ _ _ rfl (HR1.out.alloc _) ⟨wr.heap.size, 0, none⟩ 1 1 [.int .i64 x] rfl rfl (HCN.out _) (by simp [Value.oneCell']) (by decide) hlen1 hlen2 (Nat.le_trans hbs (World.grownBy_alloc _ _ none).size) _ rfl ?_; intro g cap w2 hown' hgrow hlies hg2; have hN2 := Aside0.mk ((hNs.out.alloc' _).grown hgrow W.heap.size (fun k e => (HR1.out.lt k e).1) hlt HV.out); have hfr2 := hN2.out.fr; have k372 := hN2.out.c37; have hO := Aside0.mk hown'; have hcap := own_cap hown'; clear hown' hgrow hlies)
                  go_ret
                  refine ⟨rfl, ?_⟩
                  have hxs : List.drop (L.length - 99) (L ++ [lastF e L]) = L ++ [x] := by rw [HMX.out, show L.length - 99 = 0 by have := HLL.out; omega]; rfl
                  have hml : (L ++ [x]).map (Value.int .i64) = L.map (Value.int .i64) ++ [.int .i64 x] := by simp
                  rw [hxs]
                  have hg3 := grown_set w2 ⟨b, 37, none⟩ (.slice (some ⟨g, 0, none⟩) (m + 1 + 1) cap)
                  exact (hN2.out.set37 _).inv (row_of (xs := L ++ [x]) (by rw [hml]; exact (hO.out.kept hg3 (.inr (fun e => by have := (hO.out.lt b e).1; omega)))) (by rw [List.length_append, HLL.out]; rfl) hlt HV.out)
                · by_cases h98 : m = 98
                  · subst h98
                    have hq3 : decide (e.burst ≤ (99 : Int)) = false := hqd2
                    go_wp2_with (at_builtin; refine wpList_append_lies _ rfl _ _ 28 rfl W.heap.size 2 i0 (.int .i64 0) 1 8 Try.underlying28 hi hz0 hz1 hz2 rfl (by decide) _ _ _ rfl (HR1.out.alloc _) ⟨wr.heap.size, 0, none⟩ 1 1 [.int .i64 x] rfl rfl (HCN.out _) (by simp [Value.oneCell']) (by decide) hlen1 hlen2 (Nat.le_trans hbs (World.grownBy_alloc _ _ none).size) _ rfl ?_; intro g cap w2 hown' hgrow hlies hg2; have hN2 := Aside0.mk ((hNs.out.alloc' _).grown hgrow W.heap.size (fun k e => (HR1.out.lt k e).1) hlt HV.out); have hfr2 := hN2.out.fr; have k372 := hN2.out.c37; have hO := Aside0.mk hown'; have hcap := own_cap hown'; clear hown' hgrow hlies)
                    go_ret
                    refine ⟨rfl, ?_⟩
                    have hxs : List.drop (L.length - 99) (L ++ [lastF e L]) = L ++ [x] := by rw [HMX.out, show L.length - 99 = 0 by have := HLL.out; omega]; rfl
                    have hml : (L ++ [x]).map (Value.int .i64) = L.map (Value.int .i64) ++ [.int .i64 x] := by simp
                    rw [hxs]
                    have hg3 := grown_set w2 ⟨b, 37, none⟩ (.slice (some ⟨g, 0, none⟩) (98 + 1 + 1) cap)
                    exact (hN2.out.set37 _).inv (row_of (xs := L ++ [x]) (by rw [hml]; exact (hO.out.kept hg3 (.inr (fun e => by have := (hO.out.lt b e).1; omega)))) (by rw [List.length_append, HLL.out]; rfl) hlt HV.out)
                  · obtain rfl : m = 99 := by omega
                    clear h97 h98
                    have hq3 : decide (e.burst ≤ (100 : Int)) = false := hqd2
                    go_wp2_with (at_builtin; refine wpList_append_lies _ rfl _ _ 28 rfl W.heap.size 2 i0 (.int .i64 0) 1 8 Try.underlying28 hi hz0 hz1 hz2 rfl (by decide) _ _ _ rfl (HR1.out.alloc _) ⟨wr.heap.size, 0, none⟩ 1 1 [.int .i64 x] rfl rfl (HCN.out _) (by simp [Value.oneCell']) (by decide) hlen1 hlen2 (Nat.le_trans hbs (World.grownBy_alloc _ _ none).size) _ rfl ?_; intro g cap w2 hown' hgrow hlies hg2; have hN2 := Aside0.mk ((hNs.out.alloc' _).grown hgrow W.heap.size (fun k e => (HR1.out.lt k e).1) hlt HV.out); have hfr2 := hN2.out.fr; have k372 := hN2.out.c37; have hO := Aside0.mk hown'; have hcap := own_cap hown'; clear hown' hgrow hlies)
                    go_ret
                    refine ⟨rfl, ?_⟩
                    have hxs : List.drop (L.length - 99) (L ++ [lastF e L]) = (L ++ [x]).drop 1 := by rw [HMX.out, show L.length - 99 = 1 by have := HLL.out; omega]
                    have hml : (L ++ [x]).map (Value.int .i64) = L.map (Value.int .i64) ++ [.int .i64 x] := by simp
                    rw [hxs]
                    have hg3 := grown_set w2 ⟨b, 37, none⟩ (.slice (some ⟨g, 1, none⟩) 100 (cap - 1))
                    have hrt := row_of_tail (vo := vo) (b := b) (xs := L ++ [x]) (by rw [hml]; exact (hO.out.kept hg3 (.inr (fun e => by have := (hO.out.lt b e).1; omega)))) (by rw [List.length_append, HLL.out]; rfl) hlt HV.out 1 (by omega) hcap
                    exact (hN2.out.set37 _).inv hrt
              · have hMx : lastF e L = e.now := by rw [HMM.out]; omega
                have HMX := Aside0.mk hMx
                clear hMx
                by_cases h97 : m ≤ 97
                · have h97' : (m : Int) ≤ 97 := by omega
                  go_wp2_with (at_builtin; refine wpList_append_lies _ rfl _ _ 28 rfl W.heap.size 2 i0 (.int .i64 0) 1 8 Try.underlying28 hi hz0 hz1 hz2 rfl (by decide) _ _ _ rfl (HR1.out.alloc _) ⟨wr.heap.size, 0, none⟩ 1 1 [.int .i64 e.now] rfl rfl (HCN.out _) (by simp [Value.oneCell']) (by decide) hlen1 hlen2 (Nat.le_trans hbs (World.grownBy_alloc _ _ none).size) _ rfl ?_; intro g cap w2 hown' hgrow hlies hg2; have hN2 := Aside0.mk ((hNs.out.alloc' _).grown hgrow W.heap.size (fun k e => (HR1.out.lt k e).1) hlt HV.out); have hfr2 := hN2.out.fr; have k372 := hN2.out.c37; have hO := Aside0.mk hown'; have hcap := own_cap hown'; clear hown' hgrow hlies)
                  go_ret
                  refine ⟨rfl, ?_⟩
                  have hxs : List.drop (L.length - 99) (L ++ [lastF e L]) = L ++ [e.now] := by rw [HMX.out, show L.length - 99 = 0 by have := HLL.out; omega]; rfl
                  have hml : (L ++ [e.now]).map (Value.int .i64) = L.map (Value.int .i64) ++ [.int .i64 e.now] := by simp
                  rw [hxs]
                  have hg3 := grown_set w2 ⟨b, 37, none⟩ (.slice (some ⟨g, 0, none⟩) (m + 1 + 1) cap)
                  exact (hN2.out.set37 _).inv (row_of (xs := L ++ [e.now]) (by rw [hml]; exact (hO.out.kept hg3 (.inr (fun e => by have := (hO.out.lt b e).1; omega)))) (by rw [List.length_append, HLL.out]; rfl) hlt HV.out)
                · by_cases h98 : m = 98
                  · subst h98
                    have hq3 : decide (e.burst ≤ (99 : Int)) = false := hqd2
                    go_wp2_with (at_builtin; refine wpList_append_lies _ rfl _ _ 28 rfl W.heap.size 2 i0 (.int .i64 0) 1 8 Try.underlying28 hi hz0 hz1 hz2 rfl (by decide) _ _ _ rfl (HR1.out.alloc _) ⟨wr.heap.size, 0, none⟩ 1 1 [.int .i64 e.now] rfl rfl (HCN.out _) (by simp [Value.oneCell']) (by decide) hlen1 hlen2 (Nat.le_trans hbs (World.grownBy_alloc _ _ none).size) _ rfl ?_; intro g cap w2 hown' hgrow hlies hg2; have hN2 := Aside0.mk ((hNs.out.alloc' _).grown hgrow W.heap.size (fun k e => (HR1.out.lt k e).1) hlt HV.out); have hfr2 := hN2.out.fr; have k372 := hN2.out.c37; have hO := Aside0.mk hown'; have hcap := own_cap hown'; clear hown' hgrow hlies)
                    go_ret
                    refine ⟨rfl, ?_⟩
                    have hxs : List.drop (L.length - 99) (L ++ [lastF e L]) = L ++ [e.now] := by rw [HMX.out, show L.length - 99 = 0 by have := HLL.out; omega]; rfl
                    have hml : (L ++ [e.now]).map (Value.int .i64) = L.map (Value.int .i64) ++ [.int .i64 e.now] := by simp
                    rw [hxs]
                    have hg3 := grown_set w2 ⟨b, 37, none⟩ (.slice (some ⟨g, 0, none⟩) (98 + 1 + 1) cap)
                    exact (hN2.out.set37 _).inv (row_of (xs := L ++ [e.now]) (by rw [hml]; exact (hO.out.kept hg3 (.inr (fun e => by have := (hO.out.lt b e).1; omega)))) (by rw [List.length_append, HLL.out]; rfl) hlt HV.out)
                  · obtain rfl : m = 99 := by omega
                    clear h97 h98
                    have hq3 : decide (e.burst ≤ (100 : Int)) = false := hqd2
                    go_wp2_with (at_builtin; refine wpList_append_lies _ rfl _ _ 28 rfl W.heap.size 2 i0 (.int .i64 0) 1 8 Try.underlying28 hi hz0 hz1 hz2 rfl (by decide) _ _ _ rfl (HR1.out.alloc _) ⟨wr.heap.size, 0, none⟩ 1 1 [.int .i64 e.now] rfl rfl (HCN.out _) (by simp [Value.oneCell']) (by decide) hlen1 hlen2 (Nat.le_trans hbs (World.grownBy_alloc _ _ none).size) _ rfl ?_; intro g cap w2 hown' hgrow hlies hg2; have hN2 := Aside0.mk ((hNs.out.alloc' _).grown hgrow W.heap.size (fun k e => (HR1.out.lt k e).1) hlt HV.out); have hfr2 := hN2.out.fr; have k372 := hN2.out.c37; have hO := Aside0.mk hown'; have hcap := own_cap hown'; clear hown' hgrow hlies)
                    go_ret
                    refine ⟨rfl, ?_⟩
                    have hxs : List.drop (L.length - 99) (L ++ [lastF e L]) = (L ++ [e.now]).drop 1 := by rw [HMX.out, show L.length - 99 = 1 by have := HLL.out; omega]
                    have hml : (L ++ [e.now]).map (Value.int .i64) = L.map (Value.int .i64) ++ [.int .i64 e.now] := by simp
                    rw [hxs]
                    have hg3 := grown_set w2 ⟨b, 37, none⟩ (.slice (some ⟨g, 1, none⟩) 100 (cap - 1))
                    have hrt := row_of_tail (vo := vo) (b := b) (xs := L ++ [e.now]) (by rw [hml]; exact (hO.out.kept hg3 (.inr (fun e => by have := (hO.out.lt b e).1; omega)))) (by rw [List.length_append, HLL.out]; rfl) hlt HV.out 1 (by omega) hcap
                    exact (hN2.out.set37 _).inv hrt
end Go.Proofs.Ytnoddedgkgkfhaa.Svc
