/- The plain law: a text's sum, and what a byte more and a changed byte make of it. -/
import Derived.Test.YtgmikfeecnoekaaGreatDoorSumsF
import Derived.Laws.BitsAllLaws
namespace Go.Proofs.YtgmikfeecnoekaaGreatDoor.serialSums
open Go.RowKit Go.Proofs.YtgmikfeecnoekaaGreatDoorW.PrintWords Go.Proofs.YtgmikfeecnoekaaGreatDoorW.PrintLast
set_option linter.unusedVariables false
set_option linter.unusedSimpArgs false
def step (n b : Int) : Int := (((31 * n) % 4294967296) + (b % 4294967296)) % 4294967296
theorem l0_fold (s : ByteArray) (hs : (s.size : Int) ≤ 4294967296) : ∀ (d : Nat) (k : Nat) (n : Int) (i : Nat), s.size - i = d → i ≤ s.size → d < k → serial_Sum.l0 k s n (s.size : Int) (i : Int) = some (((bytesOf s).drop i).foldl step n) := by
  intro d
  induction d with
  | zero =>
    intro k n i hd hi hk
    obtain ⟨k, rfl⟩ : ∃ m, k = m + 1 := ⟨k - 1, by omega⟩
    simp only [serial_Sum.l0]
    rw [if_neg (by omega), List.drop_eq_nil_of_le (by rw [bytesOf_length]; omega)]
    rfl
  | succ d ih =>
    intro k n i hd hi hk
    obtain ⟨k, rfl⟩ : ∃ m, k = m + 1 := ⟨k - 1, by omega⟩
    simp only [serial_Sum.l0]
    rw [if_pos (by omega), if_pos (by omega), if_pos (by omega)]
    have hw : wrap64 ((i : Int) + 1) = ((i + 1 : Nat) : Int) := by unfold wrap64; omega
    rw [hw, ih k _ (i + 1) (by omega) (by omega) (by omega)]
    have hlt : i < (bytesOf s).length := by rw [bytesOf_length]; omega
    rw [List.drop_eq_getElem_cons hlt, List.foldl_cons]
    have hb : (bytesOf s)[i] = bt s (i : Int) := by
      rw [← rd_bytesOf]
      unfold rd
      simp [List.getD_eq_getElem?_getD, List.getElem?_eq_getElem hlt]
    rw [hb]
    rfl
theorem f_fold (s : ByteArray) (hs : (s.size : Int) ≤ 4294967296) (k : Nat) (hk : s.size < k) : serial_Sum.f k s = some ((bytesOf s).foldl step 1) := by
  have h := l0_fold s hs s.size k 1 0 (by omega) (by omega) hk
  simpa [serial_Sum.f] using h
theorem step_range (n b : Int) : 0 ≤ step n b ∧ step n b < 4294967296 := by unfold step; omega
theorem step_inj {n m b : Int} (hn : 0 ≤ n ∧ n < 4294967296) (hm : 0 ≤ m ∧ m < 4294967296) (h : step n b = step m b) : n = m := by
  unfold step at h; omega
theorem fold_ne : ∀ (l : List Int) (n m : Int), 0 ≤ n ∧ n < 4294967296 → 0 ≤ m ∧ m < 4294967296 → n ≠ m → l.foldl step n ≠ l.foldl step m
  | [], n, m, _, _, h => h
  | b :: l, n, m, hn, hm, h => fold_ne l _ _ (step_range n b) (step_range m b) (fun e => h (step_inj hn hm e))
theorem step_ne {n b y : Int} (hb : 0 ≤ b ∧ b < 256) (hy : 0 ≤ y ∧ y < 256) (h : b ≠ y) : step n b ≠ step n y := by
  unfold step; omega
theorem fold_set (l : List Int) (i : Nat) (y : Int) (hi : i < l.length) (hb : ∀ x, x ∈ l → 0 ≤ x ∧ x < 256) (hy : 0 ≤ y ∧ y < 256) (hne : l[i] ≠ y) (n : Int) : (l.set i y).foldl step n ≠ l.foldl step n := by
  have e1 : l = l.take i ++ l[i] :: l.drop (i + 1) := by rw [← List.drop_eq_getElem_cons hi, List.take_append_drop]
  have e2 : l.set i y = l.take i ++ y :: l.drop (i + 1) := List.set_eq_take_append_cons_drop .. |>.trans (by rw [if_pos hi])
  rw [e2]
  conv => rhs; rw [e1]
  rw [List.foldl_append, List.foldl_append, List.foldl_cons, List.foldl_cons]
  exact fold_ne _ _ _ (step_range _ _) (step_range _ _) (step_ne hy (hb _ (List.getElem_mem hi)) (Ne.symm hne))
theorem bytesOf_range (s : ByteArray) : ∀ x, x ∈ bytesOf s → 0 ≤ x ∧ x < 256 := by
  intro x hx
  unfold bytesOf at hx
  obtain ⟨b, _, rfl⟩ := List.mem_map.1 hx
  have := b.toNat_lt
  omega
theorem bytesOf_strOfNums (l : List Int) (h : ∀ x, x ∈ l → 0 ≤ x ∧ x < 256) : bytesOf (strOfNums l) = l := by
  unfold bytesOf
  rw [strOfNums_data, List.map_map]
  conv => rhs; rw [← List.map_id l]
  refine List.map_congr_left fun x hx => ?_
  have := h x hx
  simp [Nat.mod_eq_of_lt (show x.toNat < 256 by omega)]
  omega
theorem bytesOf_push (s : ByteArray) : bytesOf (s ++ ⟨#[97]⟩) = bytesOf s ++ [97] := by
  unfold bytesOf
  simp
theorem xor_ne {x y : Int} (hx : 0 ≤ x ∧ x < 256) (hy : 0 ≤ y ∧ y < 256) (h : y ≠ 0) : bits BinOp.xor IntKind.u8 x y ≠ x ∧ 0 ≤ bits BinOp.xor IntKind.u8 x y ∧ bits BinOp.xor IntKind.u8 x y < 256 := by
  have hlt : x.toNat ^^^ y.toNat < 2 ^ 8 := Nat.xor_lt_two_pow (by omega) (by omega)
  rw [u8_xor x y hx.1 hx.2 hy.1 hy.2]
  refine ⟨fun e => ?_, by omega, by omega⟩
  have e2 : x.toNat ^^^ y.toNat = x.toNat := by omega
  have e3 : x.toNat ^^^ (x.toNat ^^^ y.toNat) = x.toNat ^^^ x.toNat := by rw [e2]
  rw [← Nat.xor_assoc, Nat.xor_self, Nat.zero_xor] at e3
  omega
end Go.Proofs.YtgmikfeecnoekaaGreatDoor.serialSums
