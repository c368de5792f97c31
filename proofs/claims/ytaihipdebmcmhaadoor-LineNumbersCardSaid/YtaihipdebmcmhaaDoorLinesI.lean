/- The lines of a text that go on put together: line.whole's iterator, and what it gives. -/
import Derived.RangeFuncNested
import Derived.RangeFuncBound
import Derived.RangeFuncCalls
import Derived.RangeFuncLeaves
import Derived.RangeFuncBox
import Derived.Shelf.Abstract
import Derived.Shelf.RegionOpen
import Derived.WalkKit
import Derived.OwnWalkIn
import Derived.TacticsInMore
import Derived.LoopNIn
import Derived.LoopIn
import Derived.Test.YtaihipdebmcmhaaDoorLinesT
namespace Go.Proofs.YtaihipdebmcmhaaDoor.Lines
open Go.RowKit Go.Shelf Go.Proofs.YtaihipdebmcmhaaDoorW.PrintWords Go.Proofs.YtaihipdebmcmhaaDoorW.PrintLast
attribute [local go_sem] Oper.semAt_some
set_option linter.unusedVariables false
def ba (l : List UInt8) : ByteArray := ⟨l.toArray⟩
theorem ba_list (l : List UInt8) : (ba l).data.toList = l := by simp [ba]
theorem ba_size (l : List UInt8) : (ba l).size = l.length := by simp [ba, ByteArray.size]
theorem ba_append (a b : List UInt8) : ba a ++ ba b = ba (a ++ b) := by
  apply ByteArray.ext
  apply Array.ext'
  simp [ba, ByteArray.data_append]
theorem ba_take (a : List UInt8) (n : Nat) : (ba a).extract 0 n = ba (a.take n) := by
  unfold ba
  apply ByteArray.ext
  apply Array.ext'
  simp [ByteArray.data_extract]
theorem grown_of_below {W W' : World} (h : Below W.heap.size W W') : W.grownBy W' none := ⟨h.os, h.tape, h.output, h.size, fun k hk _ => h.block k hk⟩
/-- a line, with all that it goes on with; what is left -/
def goL (all : List UInt8) : List (List UInt8) → List UInt8 × List (List UInt8)
  | [] => if Lib.hasSuffix all [92] = true then (all.take (all.length - 1) ++ [32], []) else (all, [])
  | r :: rest => if Lib.hasSuffix all [92] = true then goL (all.take (all.length - 1) ++ [32] ++ r) rest else (all, r :: rest)
/-- those that count, each with its number; N: how many lines there are -/
def items (N : Nat) : Nat → List (List UInt8) → List (Int × List UInt8)
  | 0, _ => []
  | _ + 1, [] => []
  | f + 1, r :: rest => if idleL r = true then items N f rest else (((N - rest.length : Nat) : Int), (goL r rest).1) :: items N f (goL r rest).2
theorem goL_suffix : ∀ (rest : List (List UInt8)) (all : List UInt8), (goL all rest).2 <:+ rest := by
  intro rest
  induction rest with
  | nil => intro all; unfold goL; split <;> exact List.suffix_refl _
  | cons r rest ih =>
    intro all
    unfold goL
    split
    · exact (ih _).trans (List.suffix_cons _ _)
    · exact List.suffix_refl _
theorem items_fuel (N : Nat) : ∀ (f : Nat) (l : List (List UInt8)), l.length ≤ f → items N (f + 1) l = items N f l := by
  intro f
  induction f with
  | zero => intro l h; have : l = [] := List.length_eq_zero_iff.1 (by omega); subst this; rfl
  | succ f ih =>
    intro l h
    cases l with
    | nil => rfl
    | cons r rest =>
      rw [List.length_cons] at h
      have h2 := (goL_suffix rest r).length_le
      rw [items, items, ih rest (by omega), ih _ (by omega)]
set_option maxHeartbeats 1000000 in
theorem idle_calls (l : List UInt8) (w : World) : Calls Tryd.prog 35 #[.string (ba l)] w fun e w' => e = .returned (.bool (idleL l)) ∧ Below w.heap.size w w' := by
  have ht : strings_TrimLeft.f (ba l) ⟨#[32, 9]⟩ = some (ba (Lib.trimLeftS l [32, 9])) := by
    unfold strings_TrimLeft.f
    rw [if_pos rfl, ba_list]
    rfl
  unfold idleL
  cases h : Lib.trimLeftS l [32, 9] with
  | nil =>
    rw [h] at ht
    have e : (ba []).toList = [] := by rw [Lib.toList_data, ba_list]
    go_enter Tryd.func35, Tryd.ntmps35
    go_wp2_with (go_at_call 24; refine (strings_TrimLeft.calls _ _ _ _ ht).mono ?_; rintro e W ⟨rfl, hb⟩)
    go_ret
    exact ⟨rfl, hb⟩
  | cons c t =>
    rw [h] at ht
    have e : (ba (c :: t)).toList = c :: t := by rw [Lib.toList_data, ba_list]
    have hsz : 0 < (ba (c :: t)).size := by rw [ba_size]; simp
    have e3 : (ba (c :: t))[0]'hsz = c := rfl
    have hq : ∀ n : Nat, n < 256 → (((c.toNat : Int) == (n : Int)) = (c == UInt8.ofNat n)) := by
      intro n hn
      rw [Bool.eq_iff_iff, beq_iff_eq, beq_iff_eq]
      constructor
      · intro h
        have h : c.toNat = n := by omega
        rw [← h]; simp
      · rintro rfl
        simp
        omega
    have q1 := hq 35 (by decide)
    have q2 := hq 59 (by decide)
    have q1 : ((c.toNat : Int) == 35) = (c == 35) := q1
    have q2 : ((c.toNat : Int) == 59) = (c == 59) := q2
    clear hq
    go_enter Tryd.func35, Tryd.ntmps35
    cases h1 : (c == 35) with
    | true =>
      rw [h1] at q1
      go_wp2_with (go_at_call 24; refine (strings_TrimLeft.calls _ _ _ _ ht).mono ?_; rintro e W ⟨rfl, hb⟩)
      go_ret
      exact ⟨rfl, hb⟩
    | false =>
      rw [h1] at q1
      go_wp2_with (go_at_call 24; refine (strings_TrimLeft.calls _ _ _ _ ht).mono ?_; rintro e W ⟨rfl, hb⟩)
      go_ret
      exact ⟨by simp [q2], hb⟩
end Go.Proofs.YtaihipdebmcmhaaDoor.Lines
