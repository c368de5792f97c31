/- Positions by what is left. -/
import Derived.Test.YtfpfdeechhaheaaDoorReadsM
namespace Go.Proofs.YtfpfdeechhaheaaDoor.Reads
open Go.RowKit Go.Proofs.YtfpfdeechhaheaaDoorW.PrintWords Go.Proofs.YtfpfdeechhaheaaDoorW.PrintLast
set_option linter.unusedVariables false
set_option linter.unusedSectionVars false
set_option linter.unusedSimpArgs false
def ba (l : List UInt8) : ByteArray := ⟨l.toArray⟩
def nums (l : List UInt8) : List Int := l.map fun b => (b.toNat : Int)
theorem ba_size (l : List UInt8) : (ba l).size = l.length := by simp [ba, ByteArray.size]
theorem ba_list (l : List UInt8) : (ba l).data.toList = l := by simp [ba]
theorem ba_of (b : ByteArray) : ba b.data.toList = b := by cases b; simp [ba]
theorem nums_app (l : List UInt8) (c : UInt8) : nums l ++ [(c.toNat : Int)] = nums (l ++ [c]) := by simp [nums]
theorem nums_len (l : List UInt8) : (nums l).length = l.length := by simp [nums]
theorem wrap_ok {n : Int} (h0 : 0 ≤ n) (h1 : n < 9223372036854775807) : wrap64 (n + 1) = n + 1 := by unfold wrap64; omega
theorem bt_list (b : ByteArray) (i : Nat) (c : UInt8) (h : b.data.toList[i]? = some c) : bt b (i : Int) = (c.toNat : Int) := by
  obtain ⟨h1, h2⟩ := List.getElem?_eq_some_iff.1 h
  have hl : i < b.size := by rw [Array.length_toList] at h1; exact h1
  unfold bt
  rw [dif_pos (by simpa using hl)]
  have : b[(i : Int).toNat]'(by simpa using hl) = c := by
    rw [← h2]; simp [ByteArray.getElem_eq_getElem_data]
  rw [this]
theorem toNat_eq {c : UInt8} {n : Nat} (hn : n < 256) : ((c.toNat : Int) = (n : Int)) ↔ c = UInt8.ofNat n := by
  constructor
  · intro h
    have h : c.toNat = n := by omega
    rw [← h]; simp
  · rintro rfl
    simp
    omega

def pos (L t : List UInt8) : Int := (L.length : Int) - (t.length : Int)
section
variable {a0 : ByteArray} {L : List UInt8} (hL : a0.data.toList = L) (hn : L.length ≤ 5000)
include hL
theorem sz : (a0.size : Int) = (L.length : Int) := by rw [← hL, Array.length_toList]; rfl
theorem at_get {t : List UInt8} (hs : t <:+ L) (i : Nat) : L[L.length - t.length + i]? = t[i]? := by
  obtain ⟨p, hp⟩ := hs
  subst hp
  rw [List.length_append, Nat.add_sub_cancel, List.getElem?_append_right (by omega), Nat.add_sub_cancel_left]
theorem pos_nat {t : List UInt8} (hs : t <:+ L) : pos L t = ((L.length - t.length : Nat) : Int) := by
  have := hs.length_le
  unfold pos; omega
theorem bt_pos {c : UInt8} {t : List UInt8} (hs : (c :: t) <:+ L) : bt a0 (pos L (c :: t)) = (c.toNat : Int) := by
  rw [pos_nat hL hs]
  refine bt_list a0 _ c ?_
  rw [hL]
  have := at_get hL hs 0
  simpa using this
include hn
theorem pos_next {c : UInt8} {t : List UInt8} (hs : (c :: t) <:+ L) : wrap64 (pos L (c :: t) + 1) = pos L t := by
  have h1 := hs.length_le
  rw [wrap_ok (by unfold pos; omega) (by unfold pos; omega)]
  unfold pos
  simp
  omega
omit hn in
theorem pos_ge {t : List UInt8} (hs : t <:+ L) : 0 ≤ pos L t := by
  have h1 := hs.length_le
  unfold pos; omega
omit hn in
theorem pos_lt {c : UInt8} {t : List UInt8} (hs : (c :: t) <:+ L) : pos L (c :: t) < (a0.size : Int) := by
  rw [sz hL]
  unfold pos; simp; omega
omit hn in
theorem pos_nil : pos L [] = (a0.size : Int) := by
  rw [sz hL]; unfold pos; simp
omit hn in
theorem cut_pos {w t : List UInt8} (hs : (w ++ t) <:+ L) : a0.extract (pos L (w ++ t)).toNat (pos L t).toNat = ba w := by
  have hs2 : t <:+ L := (List.suffix_append w t).trans hs
  rw [pos_nat hL hs, pos_nat hL hs2]
  obtain ⟨p, hp⟩ := hs
  have : a0 = ba (p ++ (w ++ t)) := by rw [hp, ← hL, ba_of]
  rw [this, ← hp]
  unfold ba
  apply ByteArray.ext
  apply Array.ext'
  simp [ByteArray.data_extract]
  rw [show p.length + (w.length + t.length) - t.length - p.length = w.length by omega]
  simp

omit hL hn in
theorem uu (c d : UInt8) : ((c.toNat : Int) = (d.toNat : Int)) = (c = d) := propext ⟨fun h => UInt8.toNat_inj.1 (by omega), fun h => by rw [h]⟩
omit hn in
theorem pos_le {w t : List UInt8} (hs : (w ++ t) <:+ L) : pos L (w ++ t) ≤ pos L t ∧ pos L t ≤ (a0.size : Int) := by
  have h1 := hs.length_le
  rw [sz hL]; unfold pos; simp at *; omega
omit hn in
theorem tail_pos {t : List UInt8} (hs : t <:+ L) : a0.extract (pos L t).toNat a0.size = ba t := by
  have h := cut_pos hL (w := t) (t := []) (by simpa using hs)
  rw [List.append_nil, pos_nil hL] at h
  simpa using h
end
theorem leO_le {α : Type} {f : Nat → Option α} (h : ∀ k, LeO (f k) (f (k + 1))) {k : Nat} : ∀ {n : Nat}, k ≤ n → LeO (f k) (f n) := by
  intro n hkn
  induction n with
  | zero => obtain rfl : k = 0 := by omega
            exact LeO.refl _
  | succ n ih =>
    by_cases e : k = n + 1
    · subst e; exact LeO.refl _
    · exact (ih (by omega)).trans (h n)
theorem cut_ba (w r : List UInt8) : (ba (w ++ r)).extract 0 w.length = ba w ∧ (ba (w ++ r)).extract w.length (ba (w ++ r)).size = ba r := by
  constructor
  · unfold ba; apply ByteArray.ext; apply Array.ext'; simp [ByteArray.data_extract]
  · rw [ba_size]; unfold ba; apply ByteArray.ext; apply Array.ext'; simp [ByteArray.data_extract]
end Go.Proofs.YtfpfdeechhaheaaDoor.Reads
