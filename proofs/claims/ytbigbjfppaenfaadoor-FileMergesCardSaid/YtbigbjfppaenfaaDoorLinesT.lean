/- What is taken by a contract of its own: the library's functions, and the law's look at the program. -/
import Derived.Test.YtbigbjfppaenfaaDoorProg
import Derived.Test.YtbigbjfppaenfaaDoorShelf
import Derived.Shelf.Strings.SlTrimAscii
import Derived.Test.YtbigbjfppaenfaaDoorSplitsK
import Derived.Below
import Derived.Deep.Draws
import Derived.Deep.AppendLies
import Derived.Maps.AppendAt
import Derived.OwnWalk
import Derived.Laws.BytesArg
import Derived.Laws.MakeOwn
import Derived.Laws.OwnMore
import Derived.Deep.OwnRows
import Derived.Tactics
import Derived.Lib.ConvBytes
import Derived.Laws.Slices
import Derived.WalkKit
import Derived.KernelRfl
import Derived.RowKit3
import Derived.Deep.LoopGhost
import Derived.Deep.QuietTactic
import Derived.BigQuiet
import Derived.WideLaws
import Derived.Deep.DeepCutAuto
import Derived.Deep.CutBlock
import Derived.Deep.RegionHeld3
import Derived.Laws.Rows
import Derived.Lib.AppendStr
import Derived.ArgAppend
import Derived.Laws.IdiomCopy
import Derived.OrdersHeld
import Derived.Laws.BitsLemmas
import Derived.RowKit
import Derived.Test.YtbigbjfppaenfaaDoorWWords
import Derived.Test.YtbigbjfppaenfaaDoorWLast
import Derived.Test.YtbigbjfppaenfaaDoorWTab
import Derived.Test.YtbigbjfppaenfaaDoorWRepsOne
namespace Go.Proofs.YtbigbjfppaenfaaDoor.Lines
open Go.RowKit Go.Proofs.YtbigbjfppaenfaaDoorW.PrintWords Go.Proofs.YtbigbjfppaenfaaDoorW.PrintLast
set_option linter.unusedVariables false
set_option linter.unusedSimpArgs false
theorem gate_builtin {P : Program} {ops : Array Oper} {Q : Exit → Act → World → Prop} {o : Oper} {rest : List Oper} {a : Act} {W : World} {b : Builtin} {xs : Array Operand} {ts : Array TypeId} (_ho : o.op = .call { callee := .builtin b, args := xs, argTypes := ts }) (h : wpList P ops Q (o :: rest) a W) : wpList P ops Q (o :: rest) a W := h
def errW : Option Int → Value
  | none => .nilIface
  | some c => .iface 0 (.int .i64 c)
theorem errW_none : errW none = .nilIface := rfl
theorem errW_some (c : Int) : errW (some c) = .iface 0 (.int .i64 c) := rfl
structure S60 where
  f0 : Int
  f1 : ByteArray
  f2 : ByteArray
  f3 : Int
def k60 : Kd S60 := Kd.iso (Kd.pair (Kd.int .i64) (Kd.pair Kd.string (Kd.pair Kd.string (Kd.int .i64)))) (fun x : S60 => (x.f0, x.f1, x.f2, x.f3))
/-- where the world was at the law's beginning, and that what was there stands -/
def GW (w : World) : Prop := ∃ W0 : World, W0.ShapedOpen Tryd.prog ∧ Below W0.heap.size W0 w
theorem GW.below {w W : World} (h : GW w) (hb : Below w.heap.size w W) : GW W := by
  obtain ⟨W0, h1, h2⟩ := h
  exact ⟨W0, h1, h2.trans (hb.mono h2.size)⟩

def strings_TrimLeft.f (a0 a1 : ByteArray) : Option ByteArray := if a1 = ⟨#[32, 9]⟩ then some ⟨(Lib.trimLeftS a0.data.toList [32, 9]).toArray⟩ else none
theorem strings_TrimLeft.calls (a0 : ByteArray) (a1 : ByteArray) (r : ByteArray) (w : World) (h : strings_TrimLeft.f a0 a1 = some r) :
    Calls Tryd.prog 51 #[.string a0, .string a1] w fun e w' => e = .returned (.string r) ∧ Below w.heap.size w w' := by
  unfold strings_TrimLeft.f at h
  split at h
  · rename_i h1
    subst h1
    injection h with h
    subst h
    exact Any.strings_TrimLeft_laid Tryd.lays161 (by kernel_rfl) a0 ⟨#[32, 9]⟩ w (by decide) (ascii_of_all (by decide))
  · exact nomatch h
theorem shapedSize {W : World} (h : W.ShapedOpen Tryd.prog) : Tryd.prog.globals.size ≤ W.heap.size := by
  obtain ⟨o, _, ho, _⟩ := h.2 Tryd.prog.globals.size (Nat.le_refl _) (by simp [begin])
  exact Nat.le_of_lt (Array.getElem?_eq_some_iff.1 ho).1
theorem GW.maxLen {w : World} (hG : GW w) : ∃ v, w.cell? ⟨0, 0, none⟩ = some (.int .i64 v) ∧ -9223372036854775808 ≤ v ∧ v ≤ 9223372036854775807 := by
  obtain ⟨W0, hsh, hb⟩ := hG
  obtain ⟨v, hv, hv1, hv2⟩ := Go.Ev.int_global hsh (g := 0) (t := 3) (u := 3) (k := .i64) (zero := #[.int .i64 0]) (by decide +kernel) (by kernel_rfl) rfl (by kernel_rfl) (by kernel_rfl) (by kernel_rfl)
  have hgs : 0 < Tryd.prog.globals.size := by decide +kernel
  have h0 : (0 : Nat) < W0.heap.size := Nat.lt_of_lt_of_le hgs (shapedSize hsh)
  exact ⟨v, by rw [hb.cell (p := ⟨0, 0, none⟩) h0]; exact hv, hv1, hv2⟩
theorem GW.size {w : World} (hG : GW w) : Tryd.prog.globals.size ≤ w.heap.size := by
  obtain ⟨W0, hsh, hb⟩ := hG
  exact Nat.le_trans (shapedSize hsh) hb.size
def strings_Trim.f (a0 a1 : ByteArray) : Option ByteArray := if a1 = ⟨#[32, 9]⟩ ∧ a0.size ≤ 9223372036854775807 then some ⟨(Lib.trimS a0.data.toList [32, 9]).toArray⟩ else none
theorem strings_Trim.calls (a0 : ByteArray) (a1 : ByteArray) (r : ByteArray) (w : World) (h : strings_Trim.f a0 a1 = some r) :
    Calls Tryd.prog 44 #[.string a0, .string a1] w fun e w' => e = .returned (.string r) ∧ Below w.heap.size w w' := by
  unfold strings_Trim.f at h
  split at h
  · rename_i h1
    obtain ⟨rfl, h2⟩ := h1
    injection h with h
    subst h
    exact Any.strings_Trim_laid Tryd.lays160 (by kernel_rfl) a0 ⟨#[32, 9]⟩ w h2 (by decide) (ascii_of_all (by decide))
  · exact nomatch h
def strings_TrimRight.f (a0 a1 : ByteArray) : Option ByteArray := if a1 = ⟨#[32, 9]⟩ ∧ a0.size ≤ 9223372036854775807 then some ⟨(Lib.trimRightS a0.data.toList [32, 9]).toArray⟩ else none
theorem strings_TrimRight.calls (a0 : ByteArray) (a1 : ByteArray) (r : ByteArray) (w : World) (h : strings_TrimRight.f a0 a1 = some r) :
    Calls Tryd.prog 49 #[.string a0, .string a1] w fun e w' => e = .returned (.string r) ∧ Below w.heap.size w w' := by
  unfold strings_TrimRight.f at h
  split at h
  · rename_i h1
    obtain ⟨rfl, h2⟩ := h1
    injection h with h
    subst h
    exact Any.strings_TrimRight_laid Tryd.lays162 (by kernel_rfl) a0 ⟨#[32, 9]⟩ w h2 (by decide) (ascii_of_all (by decide))
  · exact nomatch h
def strings_Cut.f (a0 a1 : ByteArray) : Option (ByteArray × ByteArray × Bool) := if a0.size < 4294967281 then some (⟨(Lib.cut a0.data.toList a1.data.toList).1.toArray⟩, ⟨(Lib.cut a0.data.toList a1.data.toList).2.1.toArray⟩, (Lib.cut a0.data.toList a1.data.toList).2.2) else none
theorem strings_Cut.calls (a0 : ByteArray) (a1 : ByteArray) (r1 : ByteArray) (r2 : ByteArray) (r3 : Bool) (w : World) (h : strings_Cut.f a0 a1 = some (r1, r2, r3)) (hG : GW w) :
    Calls Tryd.prog 48 #[.string a0, .string a1] w fun e w' => e = .returned (.tuple #[.string r1, .string r2, .bool r3]) ∧ Below w.heap.size w w' := by
  unfold strings_Cut.f at h
  split at h
  · rename_i h1
    injection h with h
    injection h with h2 h3
    injection h3 with h3 h4
    subst h2; subst h3; subst h4
    obtain ⟨m, hm2, _, _⟩ := hG.maxLen
    refine (Tryd.strings_Cut a0 a1 m w h1 hm2).mono ?_
    rintro e w' ⟨h5, k, rfl⟩
    exact ⟨h5, pw_below_drewN (Below.refl _ _) k⟩
  · exact nomatch h
def reveillelaw6_known.f : Option Bool := some true
theorem reveillelaw6_known.calls (r : Bool) (w : World) (h : reveillelaw6_known.f = some r) (hG : GW w) :
    Calls Tryd.prog 7 #[] w fun e w' => e = .returned (.bool r) ∧ Below w.heap.size w w' := by
  obtain ⟨v, hv, h1, h2⟩ := hG.maxLen
  injection h with h
  subst h
  exact Splits.known_calls w hG.size v hv h1 h2 Tryd.checked.mixed
end Go.Proofs.YtbigbjfppaenfaaDoor.Lines
