/- What is taken by a contract of its own: the library's functions, and the law's look at the program. -/
import Derived.Test.YtaihipdebmcmhaaDoorProg
import Derived.Test.YtaihipdebmcmhaaDoorAny
import Derived.Shelf.Strings.SlTrimAscii
import Derived.Test.YtaihipdebmcmhaaDoorSplitsK
import Derived.Below
import Derived.Deep.Draws
import Derived.Deep.AppendLies
import Derived.Maps.AppendAt
import Derived.OwnWalk
import Derived.Laws.BytesArg
import Derived.Laws.MakeOwn
import Derived.Laws.OwnMore
import Derived.Deep.OwnRows
import Derived.Tactics
import Derived.Lib.ConvBytes
import Derived.Laws.Slices
import Derived.WalkKit
import Derived.KernelRfl
import Derived.RowKit3
import Derived.Deep.LoopGhost
import Derived.Deep.QuietTactic
import Derived.BigQuiet
import Derived.WideLaws
import Derived.Deep.DeepCutAuto
import Derived.Deep.CutBlock
import Derived.Deep.RegionHeld3
import Derived.Laws.Rows
import Derived.Lib.AppendStr
import Derived.ArgAppend
import Derived.Laws.IdiomCopy
import Derived.OrdersHeld
import Derived.Laws.BitsLemmas
import Derived.RowKit
import Derived.Test.YtaihipdebmcmhaaDoorWWords
import Derived.Test.YtaihipdebmcmhaaDoorWLast
import Derived.Test.YtaihipdebmcmhaaDoorWTab
import Derived.Test.YtaihipdebmcmhaaDoorWRepsOne

namespace Go.Proofs.YtaihipdebmcmhaaDoor.Splits
open Go.RowKit Go.Proofs.YtaihipdebmcmhaaDoorW.PrintWords Go.Proofs.YtaihipdebmcmhaaDoorW.PrintLast
set_option linter.unusedVariables false

set_option linter.unusedSimpArgs false
theorem gate_callee {P : Program} {ops : Array Oper} {Q : Exit → Act → World → Prop} {o : Oper} {rest : List Oper} {a : Act} {W : World} {f : FuncId} {as1 : Array Operand} {ts : Array TypeId} (_ho : o.op = .call { callee := .value (.func f), args := as1, argTypes := ts }) (h : wpList P ops Q (o :: rest) a W) : wpList P ops Q (o :: rest) a W := h
theorem gate_builtin {P : Program} {ops : Array Oper} {Q : Exit → Act → World → Prop} {o : Oper} {rest : List Oper} {a : Act} {W : World} {b : Builtin} {xs : Array Operand} {ts : Array TypeId} (_ho : o.op = .call { callee := .builtin b, args := xs, argTypes := ts }) (h : wpList P ops Q (o :: rest) a W) : wpList P ops Q (o :: rest) a W := h




def errW : Option Int → Value
  | none => .nilIface
  | some c => .iface 0 (.int .i64 c)
theorem errW_none : errW none = .nilIface := rfl
theorem errW_some (c : Int) : errW (some c) = .iface 0 (.int .i64 c) := rfl

theorem info5 : (Tryd.prog.info? 5).map (fun i => (i.zero, i.size, i.bytes)) = some (some (.int .u8 0), 1, 1) := by kernel_rfl
theorem info9 : (Tryd.prog.info? 9).map (fun i => (i.zero, i.size, i.bytes)) = some (some (.string ⟨#[]⟩), 1, 16) := by kernel_rfl
-- the values' own types

/-- where the world was at the law's beginning, and that what was there stands -/
def GW (w : World) : Prop := ∃ W0 : World, W0.ShapedOpen Tryd.prog ∧ Below W0.heap.size W0 w
theorem GW.below {w W : World} (h : GW w) (hb : Below w.heap.size w W) : GW W := by
  obtain ⟨W0, h1, h2⟩ := h
  exact ⟨W0, h1, h2.trans (hb.mono h2.size)⟩

def strings_TrimLeft.f (a0 a1 : ByteArray) : Option ByteArray := if a1 = ⟨#[32, 9]⟩ then some ⟨(Lib.trimLeftS a0.data.toList [32, 9]).toArray⟩ else none
theorem strings_TrimLeft.calls (a0 : ByteArray) (a1 : ByteArray) (r : ByteArray) (w : World) (h : strings_TrimLeft.f a0 a1 = some r) :
    Calls Tryd.prog 24 #[.string a0, .string a1] w fun e w' => e = .returned (.string r) ∧ Below w.heap.size w w' := by
  unfold strings_TrimLeft.f at h
  split at h
  · rename_i h1
    subst h1
    injection h with h
    subst h
    exact Any.strings_TrimLeft_laid Tryd.lays161 (by kernel_rfl) a0 ⟨#[32, 9]⟩ w (by decide) (ascii_of_all (by decide))
  · exact nomatch h
def strings_IndexAny.f (a0 a1 : ByteArray) : Option Int := if a1 = ⟨#[32, 9]⟩ ∧ a0.size < 4294967281 then some (Lib.indexAny a0.data.toList [32, 9]) else none
theorem strings_IndexAny.calls (a0 : ByteArray) (a1 : ByteArray) (r : Int) (w : World) (h : strings_IndexAny.f a0 a1 = some r) (hG : GW w) :
    Calls Tryd.prog 25 #[.string a0, .string a1] w fun e w' => e = .returned (.int .i64 r) ∧ Below w.heap.size w w' := by
  unfold strings_IndexAny.f at h
  split at h
  · rename_i h1
    obtain ⟨h1, h2⟩ := h1
    subst h1
    injection h with h
    subst h
    by_cases h8 : a0.size ≤ 8
    · exact indexAny_short a0 w h8
    · have h116 : (Tryd.prog.info? (Tryd.lays153_ren.t 116)).map (fun i => (i.zero, i.size)) = some (some (.agg (Array.replicate 256 (.bool false))), 256) := by kernel_rfl
      refine (Any.strings_IndexAny_long Tryd.lays153 (zero_of_info h116).1 (zero_of_info h116).2 a0 ⟨#[32, 9]⟩ w (by decide) (by omega) h2 (by decide) (ascii_of_all (by decide))).mono fun e w' ⟨h1, h2⟩ => ⟨h1, ?_⟩
      rw [h2]
      exact ((Below.refl _ _).alloc (Nat.le_refl _) _).alloc (by simp) _
  · exact nomatch h
theorem shapedSize {W : World} (h : W.ShapedOpen Tryd.prog) : Tryd.prog.globals.size ≤ W.heap.size := by
  obtain ⟨o, _, ho, _⟩ := h.2 Tryd.prog.globals.size (Nat.le_refl _) (by simp [begin])
  exact Nat.le_of_lt (Array.getElem?_eq_some_iff.1 ho).1
theorem GW.maxLen {w : World} (hG : GW w) : ∃ v, w.cell? ⟨0, 0, none⟩ = some (.int .i64 v) ∧ -9223372036854775808 ≤ v ∧ v ≤ 9223372036854775807 := by
  obtain ⟨W0, hsh, hb⟩ := hG
  obtain ⟨v, hv, hv1, hv2⟩ := Go.Ev.int_global hsh (g := 0) (t := 3) (u := 3) (k := .i64) (zero := #[.int .i64 0]) (by decide +kernel) (by kernel_rfl) rfl (by kernel_rfl) (by kernel_rfl) (by kernel_rfl)
  have hgs : 0 < Tryd.prog.globals.size := by decide +kernel
  have h0 : (0 : Nat) < W0.heap.size := Nat.lt_of_lt_of_le hgs (shapedSize hsh)
  exact ⟨v, by rw [hb.cell (p := ⟨0, 0, none⟩) h0]; exact hv, hv1, hv2⟩
theorem GW.size {w : World} (hG : GW w) : Tryd.prog.globals.size ≤ w.heap.size := by
  obtain ⟨W0, hsh, hb⟩ := hG
  exact Nat.le_trans (shapedSize hsh) hb.size
def strings_ReplaceAll.f (a0 a1 a2 : ByteArray) : Option ByteArray :=
  if a0.size < 4294967281 ∧ 1 ≤ a1.size ∧ a0.size + Lib.countB a0 a1 * a2.size ≤ 140737488355328 then some ⟨(Lib.replaceAll a0.data.toList a1.data.toList a2.data.toList).toArray⟩ else none
theorem strings_ReplaceAll.calls (a0 : ByteArray) (a1 : ByteArray) (a2 : ByteArray) (r : ByteArray) (w : World) (h : strings_ReplaceAll.f a0 a1 a2 = some r) (hG : GW w) :
    Calls Tryd.prog 32 #[.string a0, .string a1, .string a2] w fun e w' => e = .returned (.string r) ∧ Below w.heap.size w w' := by
  unfold strings_ReplaceAll.f at h
  split at h
  · rename_i h1
    injection h with h
    subst h
    obtain ⟨m, hm2, _, _⟩ := hG.maxLen
    exact Tryd.strings_ReplaceAll a0 a1 a2 m w h1.1 hm2 h1.2.1 h1.2.2
  · exact nomatch h
def reveillelaw5_known.f : Option Bool := some true
theorem reveillelaw5_known.calls (r : Bool) (w : World) (h : reveillelaw5_known.f = some r) (hG : GW w) :
    Calls Tryd.prog 9 #[] w fun e w' => e = .returned (.bool r) ∧ Below w.heap.size w w' := by
  obtain ⟨v, hv, h1, h2⟩ := hG.maxLen
  injection h with h
  subst h
  exact known_calls w hG.size v hv h1 h2 Tryd.checked.mixed
end Go.Proofs.YtaihipdebmcmhaaDoor.Splits
