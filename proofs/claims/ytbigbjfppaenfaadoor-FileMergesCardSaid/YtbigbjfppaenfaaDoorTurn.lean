/- What a step turns: blocks that are named, and new ones. -/
import Derived.Test.YtbigbjfppaenfaaDoorNext
import Derived.RangeFuncWrites
import Derived.Maps.OwnIn
namespace Go.Proofs.YtbigbjfppaenfaaDoor.Lines
open Go.RowKit Go.Shelf
set_option linter.unusedVariables false
/-- of the blocks that lay there, none but q's are turned -/
structure Turn (q : Nat → Prop) (W W' : World) : Prop where
  os : W'.os = W.os
  tape : W'.tape = W.tape
  output : W'.output = W.output
  size : W.heap.size ≤ W'.heap.size
  block : ∀ k, k < W.heap.size → ¬ q k → W'.heap[k]? = W.heap[k]?
theorem Turn.refl (q : Nat → Prop) (W : World) : Turn q W W := ⟨rfl, rfl, rfl, Nat.le_refl _, fun _ _ _ => rfl⟩
theorem Turn.trans {q : Nat → Prop} {A B C : World} (h : Turn q A B) (k : Turn q B C) : Turn q A C :=
  ⟨k.os.trans h.os, k.tape.trans h.tape, k.output.trans h.output, Nat.le_trans h.size k.size, fun i hi hq => (k.block i (Nat.lt_of_lt_of_le hi h.size) hq).trans (h.block i hi hq)⟩
theorem Turn.mono {q q' : Nat → Prop} {A B : World} (h : Turn q A B) (hq : ∀ k, k < A.heap.size → q k → q' k) : Turn q' A B := ⟨h.os, h.tape, h.output, h.size, fun k hk hn => h.block k hk (fun hh => hn (hq k hk hh))⟩
theorem Turn.grown {q : Nat → Prop} {W W' : World} {row : Option Nat} (hg : W.grownBy W' row) (hq : ∀ k, row = some k → q k) : Turn q W W' :=
  ⟨hg.os, hg.tape, hg.output, hg.size, fun k hk hn => hg.block k hk (fun e => hn (hq k e.symm))⟩
theorem Turn.below {q : Nat → Prop} {W W' : World} {n : Nat} (hb : Below n W W') (hn : W.heap.size ≤ n) : Turn q W W' := ⟨hb.os, hb.tape, hb.output, hb.size, fun k hk _ => hb.block k (Nat.lt_of_lt_of_le hk hn)⟩
theorem Turn.alloc {q : Nat → Prop} (W : World) (o : Obj) : Turn q W (W.alloc o) := Turn.grown (World.grownBy_alloc W o none) (fun k e => by cases e)
theorem Turn.drew {q : Nat → Prop} (W : World) : Turn q W W.drew := ⟨rfl, rfl, rfl, Nat.le_refl _, fun _ _ _ => rfl⟩
theorem Turn.set {q : Nat → Prop} (W : World) (B : Nat) (v : Value) (h : q B) : Turn q W (W.setCell ⟨B, 0, none⟩ v) := Turn.grown (grownBy_setCell' W B v) (fun k e => by cases e; exact h)
theorem Turn.toBelow {q : Nat → Prop} {W W' : World} {n : Nat} (h : Turn q W W') (hq : ∀ k, k < n → ¬ q k) (hn : n ≤ W.heap.size) : Below n W W' := ⟨h.os, h.tape, h.output, h.size, fun k hk => h.block k (Nat.lt_of_lt_of_le hk hn) (hq k hk)⟩
theorem Turn.toFrom {q : Nat → Prop} {W W' : World} {B : Nat} (h : Turn q W W') (hq : ∀ k, q k → B ≤ k → ∀ o, W.heap[k]? = some o → o.isCells = true) : KeepsFrom B W W' :=
  ⟨h.size, fun k o hB hk ho => (h.block k (Array.getElem?_eq_some_iff.1 hk).1 (fun hh => by have := hq k hh hB o hk; rw [ho] at this; cases this)).trans hk⟩
theorem Turn.boxed {q : Nat → Prop} {W W' : World} {B : Nat} {t : TypeId} {v : Value} (h : Turn q W W') (hb : Boxed W B t v) (hq : ¬ q B) : Boxed W' B t v := (h.block B hb.lt hq).trans hb
theorem Turn.heap {q : Nat → Prop} {W W' : World} {B : Nat} {o : Obj} (h : Turn q W W') (hb : W.heap[B]? = some o) (hq : ¬ q B) : W'.heap[B]? = some o := (h.block B (Array.getElem?_eq_some_iff.1 hb).1 hq).trans hb
theorem Turn.row {q : Nat → Prop} {W W' : World} {n e s m : Nat} {v : Value} {xs : List Value} (h : Turn q W W') (ho : W.ownsRow n e s v m xs) (hq : ∀ k, v.ownBlock = some k → ¬ q k) : W'.ownsRow n e s v m xs := by
  obtain ⟨h1, h2⟩ := ho
  refine ⟨h1, ?_⟩
  rcases h2 with h2 | ⟨g, cap, cur, rfl, hg, hh, r⟩
  · exact .inl h2
  · exact .inr ⟨g, cap, cur, rfl, hg, h.heap hh (hq g (by simp [Value.ownBlock])), r⟩
theorem Turn.map {H : Type} {P : Program} {k : TypeId} {R : Value → Option (DataW H × List MemPlace)} {b n : Nat} {D : DataW H} {q : Nat → Prop} {W W' : World} (h : Turn q W W') (hm : W.ownsMap P k R b n D) (hq : ¬ q b) : W'.ownsMap P k R b n D := by
  obtain ⟨es, clock, hb, r⟩ := hm
  exact ⟨es, clock, h.heap hb hq, r⟩
end Go.Proofs.YtbigbjfppaenfaaDoor.Lines
