/- line.Lines over that iterator: each whole line read, or the first error and where. -/
import Derived.Test.YtbigbjfppaenfaaDoorLinesT
import Derived.Maps.AppendAt
import Derived.Lib.IndexBytes
import Derived.Lib.ReplaceLaws
import Derived.Lib.SplitLaws
import Derived.LoopIn
import Derived.LoopNIn
import Derived.OwnWalkIn
import Derived.RangeFuncBound
import Derived.RangeFuncBox
import Derived.RangeFuncCalls
import Derived.RangeFuncLeaves
import Derived.RangeFuncNested
import Derived.Shelf.Abstract
import Derived.Shelf.RegionOpen
import Derived.TacticsInMore
import Derived.WalkKit
namespace Go.Proofs.YtbigbjfppaenfaaDoor.Lines
open Go.RowKit Go.Shelf Go.Proofs.YtbigbjfppaenfaaDoorW.PrintWords Go.Proofs.YtbigbjfppaenfaaDoorW.PrintLast
attribute [local go_sem] Oper.semAt_some
set_option linter.unusedVariables false
theorem under {n : Nat} {W W' : World} {B : Nat} {t : TypeId} {v : Value} (h : Boxed W B t v) (hb : Below n W W') (hn : B < n) : Boxed W' B t v := (hb.block B hn).trans h
theorem boxed_own {β : Type} (B : Nat) (t : TypeId) (v : β → Value) : Own (fun (s : β) W => Boxed W B t (v s)) := by
  intro s W W' row hs hg hr
  refine hs.kept hg ?_
  intro e
  obtain ⟨o, ho, hc⟩ := hr B e.symm
  unfold Boxed at hs
  rw [hs] at ho
  cases ho
  cases hc
theorem put_box {W : World} {B l : Nat} {t : TypeId} {v : Value} {o : Obj} (h : Boxed W B t v) (o' : Obj) (hl : W.heap[l]? = some o) (ho : o.isCells = false) : Boxed (W.putObj l o') B t v := by
  refine h.kept (grownBy_putObj' W l o') ?_
  intro e
  obtain rfl : B = l := Option.some.inj e
  unfold Boxed at h
  rw [h] at hl
  cases hl
  cases ho
theorem apart {W : World} {B G : Nat} {t : TypeId} {v u : Value} (h : Boxed W B t v) (hne : B ≠ G) : Boxed (W.setCell ⟨G, 0, none⟩ u) B t v :=
  h.kept (grownBy_setCell' W G u) (fun e => hne (Option.some.inj e))
end Go.Proofs.YtbigbjfppaenfaaDoor.Lines
