/- An automaton that is being told something: its block of cells and what it wants, as values; what single stores and appends do to them. -/
import Derived.Test.YtnoddedgkgkfhaaSvcT
namespace Go.Proofs.Ytnoddedgkgkfhaa.Svc
open Go.RowKit Go.Proofs.YtnoddedgkgkfhaaW.PrintWords Go.Proofs.YtnoddedgkgkfhaaW.PrintLast
set_option linter.unusedVariables false
/-- what doesn't change of a step: fields of the unit and of the input; 'o': those that no automaton reads -/
structure En where
  o : Nat → Value
  typ : Int
  rst : Int
  kil : Int
  pre : List ByteArray
  sta : List ByteArray
  sto : List ByteArray
  Apre : Option Addr
  cpre : Nat
  Asta : Option Addr
  csta : Nat
  Asto : Option Addr
  csto : Nat
  rsec : Int
  ssec : Int
  tsec : Int
  wdog : Int
  burst : Int
  ivl : Int
  remain : Bool
  kind : Int
  pid : Int
  status : Int
  text : ByteArray
  now : Int
/-- what changes -/
structure S where
  sub : Int
  main : Int
  control : Int
  next : Int
  starts : List Int
  stopping : Bool
  result : Int
  waiting : Bool
  out : List S41
def cellsA (a : S41) : List Value := [.int .i64 a.f0, .int .i64 a.f1, .int .i64 a.f2, .int .i64 a.f3, .string a.f4, .int .i64 a.f5]
def cellsX (e : En) (s : S) (vs vo : Value) : Array Value := #[e.o 0, e.o 1, e.o 2, e.o 3, e.o 4, e.o 5, e.o 6, e.o 7, e.o 8, e.o 9, e.o 10, .int .i64 e.typ, .int .i64 e.rst, .int .i64 e.kil,
  .slice e.Apre e.pre.length e.cpre, .slice e.Asta e.sta.length e.csta, .slice e.Asto e.sto.length e.csto, .int .i64 e.rsec, .int .i64 e.ssec, .int .i64 e.tsec, .int .i64 e.wdog, .int .i64 e.burst, .int .i64 e.ivl, .bool e.remain,
  e.o 24, e.o 25, e.o 26, e.o 27, e.o 28, e.o 29, e.o 30, e.o 31, e.o 32,
  .int .i64 s.sub, .int .i64 s.main, .int .i64 s.control, .int .i64 s.next, vs, .bool s.stopping, .int .i64 s.result, .bool s.waiting,
  .int .i64 e.kind, .int .i64 e.pid, .int .i64 e.status, .string e.text, .int .i64 e.now, vo]
/-- a row of numbers that is read, apart from a block and from another row -/
def RowI (W : World) (b : Nat) (vo vs : Value) (xs : List Int) : Prop :=
  (vs = .slice none 0 0 ∧ xs = []) ∨ ∃ ad c, vs = .slice (some ad) xs.length c ∧ xs.length ≤ c ∧ b < ad.block ∧ vo.ownBlock ≠ some ad.block ∧ ad.block < W.heap.size ∧ ∀ j u, xs[j]? = some u → W.cell? (ad.add j) = some (.int .i64 u)
theorem block_add (a : Addr) (i : Nat) : (a.add i).block = a.block := by unfold Addr.add; split <;> rfl
theorem RowI.grown {W W' : World} {b : Nat} {vo vs : Value} {xs : List Int} {row : Option Nat} (h : RowI W b vo vs xs) (hg : W.grownBy W' row) (hr : ∀ k, row = some k → k = b ∨ vo.ownBlock = some k) : RowI W' b vo vs xs := by
  rcases h with h | ⟨ad, c, h1, h2, h3, h4, h5, h6⟩
  · exact .inl h
  · refine .inr ⟨ad, c, h1, h2, h3, h4, Nat.lt_of_lt_of_le h5 hg.size, fun j u hj => ?_⟩
    refine hg.cell (h6 j u hj) ?_
    rw [block_add]
    intro e
    rcases hr _ e.symm with e2 | e2
    · exact Nat.ne_of_gt h3 e2
    · exact h4 e2
theorem RowI.moved {W W' : World} {b : Nat} {vo vo' vs : Value} {xs : List Int} (h : RowI W b vo vs xs) (hg : W.grownBy W' vo.ownBlock) (hn : ∀ k, vo'.ownBlock = some k → vo.ownBlock = some k ∨ k = W.heap.size) : RowI W' b vo' vs xs := by
  rcases h with h | ⟨ad, c, h1, h2, h3, h4, h5, h6⟩
  · exact .inl h
  · refine .inr ⟨ad, c, h1, h2, h3, fun e => ?_, Nat.lt_of_lt_of_le h5 hg.size, fun j u hj => ?_⟩
    · rcases hn _ e with e2 | e2
      · exact h4 e2
      · omega
    · refine hg.cell (h6 j u hj) ?_
      rw [block_add]
      exact fun e => h4 e.symm
/-- the block 'b' holds an automaton that is being told something; nothing that was there before has changed -/
def Inv (w0 W : World) (b : Nat) (e : En) (s : S) : Prop :=
  ∃ vs vo, W.heap[b]? = some (.cells (cellsX e s vs vo) 73 (0, 0)) ∧ W.ownsRow (b + 1) 41 6 vo s.out.length (s.out.flatMap cellsA) ∧ RowI W b vo vs s.starts ∧ Below b w0 W
theorem Inv.below {w0 W W' : World} {b : Nat} {e : En} {s : S} (h : Inv w0 W b e s) (hb : Below W.heap.size W W') : Inv w0 W' b e s := by
  obtain ⟨vs, vo, h1, h2, h3, h4⟩ := h
  have hlt := blk_lt h1
  exact ⟨vs, vo, (hb.block b hlt).trans h1, pw_own_below h2 hb, h3.grown (grown_of_below hb none) (fun k e => by cases e), h4.trans (hb.mono (Nat.le_of_lt hlt))⟩
theorem grown_set (W : World) (p : Addr) (v : Value) : W.grownBy (W.setCell p v) (some p.block) := by
  have hb := Below.refl W.heap.size W
  refine ⟨rfl, rfl, rfl, by simp [World.setCell], fun k hk hne => ?_⟩
  exact Below.heap_setCell W p v k (fun e => hne (by rw [e]))
theorem Inv.set {w0 W : World} {b : Nat} {e : En} {s s' : S} (h : Inv w0 W b e s) (i : Nat) (v : Value) (hs : s'.starts = s.starts) (ho : s'.out = s.out)
    (hc : ∀ vs vo, (cellsX e s vs vo).setIfInBounds i v = cellsX e s' vs vo) : Inv w0 (W.setCell ⟨b, i, none⟩ v) b e s' := by
  obtain ⟨vs, vo, h1, h2, h3, h4⟩ := h
  have hg := grown_set W ⟨b, i, none⟩ v
  refine ⟨vs, vo, by rw [← hc]; exact blk_set h1 i v, ?_, ?_, ?_⟩
  · rw [ho]
    refine h2.kept hg ?_
    right
    intro e
    have := (h2.lt b e).1
    omega
  · rw [hs]
    exact h3.grown hg (fun k e => .inl (Option.some.inj e).symm)
  · exact h4.grown hg (Nat.le_of_lt (blk_lt h1)) (fun k e => Nat.le_of_eq (Option.some.inj e))
theorem Inv.set33 {w0 W : World} {b : Nat} {e : En} {s : S} (h : Inv w0 W b e s) (n : Int) : Inv w0 (W.setCell ⟨b, 33, none⟩ (.int .i64 n)) b e { s with sub := n } := h.set 33 _ rfl rfl fun _ _ => rfl
theorem Inv.set34 {w0 W : World} {b : Nat} {e : En} {s : S} (h : Inv w0 W b e s) (n : Int) : Inv w0 (W.setCell ⟨b, 34, none⟩ (.int .i64 n)) b e { s with main := n } := h.set 34 _ rfl rfl fun _ _ => rfl
theorem Inv.set35 {w0 W : World} {b : Nat} {e : En} {s : S} (h : Inv w0 W b e s) (n : Int) : Inv w0 (W.setCell ⟨b, 35, none⟩ (.int .i64 n)) b e { s with control := n } := h.set 35 _ rfl rfl fun _ _ => rfl
theorem Inv.set36 {w0 W : World} {b : Nat} {e : En} {s : S} (h : Inv w0 W b e s) (n : Int) : Inv w0 (W.setCell ⟨b, 36, none⟩ (.int .i64 n)) b e { s with next := n } := h.set 36 _ rfl rfl fun _ _ => rfl
theorem Inv.set38 {w0 W : World} {b : Nat} {e : En} {s : S} (h : Inv w0 W b e s) (n : Bool) : Inv w0 (W.setCell ⟨b, 38, none⟩ (.bool n)) b e { s with stopping := n } := h.set 38 _ rfl rfl fun _ _ => rfl
theorem Inv.set39 {w0 W : World} {b : Nat} {e : En} {s : S} (h : Inv w0 W b e s) (n : Int) : Inv w0 (W.setCell ⟨b, 39, none⟩ (.int .i64 n)) b e { s with result := n } := h.set 39 _ rfl rfl fun _ _ => rfl
theorem Inv.set40 {w0 W : World} {b : Nat} {e : En} {s : S} (h : Inv w0 W b e s) (n : Bool) : Inv w0 (W.setCell ⟨b, 40, none⟩ (.bool n)) b e { s with waiting := n } := h.set 40 _ rfl rfl fun _ _ => rfl
theorem Inv.alloc {w0 W : World} {b : Nat} {e : En} {s : S} (h : Inv w0 W b e s) (o : Obj) : Inv w0 (W.alloc o) b e s := h.below ((Below.refl _ _).alloc (Nat.le_refl _) _)
theorem Inv.drew {w0 W : World} {b : Nat} {e : En} {s : S} (h : Inv w0 W b e s) : Inv w0 W.drew b e s := h.below (Below.refl _ _).drew
/-- what the walk reads of a block -/
structure Cs (W : World) (b : Nat) (e : En) (s : S) (vs vo : Value) : Prop where
  fr : ∀ i, W.frozen? ⟨b, i, none⟩ = false
  c11 : W.cell? ⟨b, 11, none⟩ = some (.int .i64 e.typ)
  c12 : W.cell? ⟨b, 12, none⟩ = some (.int .i64 e.rst)
  c13 : W.cell? ⟨b, 13, none⟩ = some (.int .i64 e.kil)
  c14 : W.cell? ⟨b, 14, none⟩ = some (.slice e.Apre e.pre.length e.cpre)
  c15 : W.cell? ⟨b, 15, none⟩ = some (.slice e.Asta e.sta.length e.csta)
  c16 : W.cell? ⟨b, 16, none⟩ = some (.slice e.Asto e.sto.length e.csto)
  c17 : W.cell? ⟨b, 17, none⟩ = some (.int .i64 e.rsec)
  c18 : W.cell? ⟨b, 18, none⟩ = some (.int .i64 e.ssec)
  c19 : W.cell? ⟨b, 19, none⟩ = some (.int .i64 e.tsec)
  c20 : W.cell? ⟨b, 20, none⟩ = some (.int .i64 e.wdog)
  c21 : W.cell? ⟨b, 21, none⟩ = some (.int .i64 e.burst)
  c22 : W.cell? ⟨b, 22, none⟩ = some (.int .i64 e.ivl)
  c23 : W.cell? ⟨b, 23, none⟩ = some (.bool e.remain)
  c33 : W.cell? ⟨b, 33, none⟩ = some (.int .i64 s.sub)
  c34 : W.cell? ⟨b, 34, none⟩ = some (.int .i64 s.main)
  c35 : W.cell? ⟨b, 35, none⟩ = some (.int .i64 s.control)
  c36 : W.cell? ⟨b, 36, none⟩ = some (.int .i64 s.next)
  c37 : W.cell? ⟨b, 37, none⟩ = some vs
  c38 : W.cell? ⟨b, 38, none⟩ = some (.bool s.stopping)
  c39 : W.cell? ⟨b, 39, none⟩ = some (.int .i64 s.result)
  c40 : W.cell? ⟨b, 40, none⟩ = some (.bool s.waiting)
  c41 : W.cell? ⟨b, 41, none⟩ = some (.int .i64 e.kind)
  c42 : W.cell? ⟨b, 42, none⟩ = some (.int .i64 e.pid)
  c43 : W.cell? ⟨b, 43, none⟩ = some (.int .i64 e.status)
  c44 : W.cell? ⟨b, 44, none⟩ = some (.string e.text)
  c45 : W.cell? ⟨b, 45, none⟩ = some (.int .i64 e.now)
  c46 : W.cell? ⟨b, 46, none⟩ = some vo
theorem Inv.cs {w0 W : World} {b : Nat} {e : En} {s : S} (h : Inv w0 W b e s) : ∃ vs vo, Cs W b e s vs vo := by
  obtain ⟨vs, vo, h1, _⟩ := h
  have fr : ∀ i, W.frozen? ⟨b, i, none⟩ = false := fun i => by simp [World.frozen?, h1]
  exact ⟨vs, vo, fr, (blk_cell h1 11).trans rfl, (blk_cell h1 12).trans rfl, (blk_cell h1 13).trans rfl, (blk_cell h1 14).trans rfl, (blk_cell h1 15).trans rfl, (blk_cell h1 16).trans rfl, (blk_cell h1 17).trans rfl, (blk_cell h1 18).trans rfl,
    (blk_cell h1 19).trans rfl, (blk_cell h1 20).trans rfl, (blk_cell h1 21).trans rfl, (blk_cell h1 22).trans rfl, (blk_cell h1 23).trans rfl, (blk_cell h1 33).trans rfl, (blk_cell h1 34).trans rfl, (blk_cell h1 35).trans rfl, (blk_cell h1 36).trans rfl,
    (blk_cell h1 37).trans rfl, (blk_cell h1 38).trans rfl, (blk_cell h1 39).trans rfl, (blk_cell h1 40).trans rfl, (blk_cell h1 41).trans rfl, (blk_cell h1 42).trans rfl, (blk_cell h1 43).trans rfl, (blk_cell h1 44).trans rfl, (blk_cell h1 45).trans rfl, (blk_cell h1 46).trans rfl⟩
theorem info41 : (Try.prog.info? 41).map (fun i => (i.zero, i.size, i.bytes)) = some (some (.agg #[.int .i64 0, .int .i64 0, .int .i64 0, .int .i64 0, .string ⟨#[]⟩, .int .i64 0]), 6, 56) := by kernel_rfl
end Go.Proofs.Ytnoddedgkgkfhaa.Svc
