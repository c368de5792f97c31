/- strings.IndexAny at the two blanks, whatever the text. -/
import Derived.Test.YtaihipdebmcmhaaDoorRune
import Derived.Lib.OthersKept
import Derived.Shelf.Strings.IndexAny
import Derived.Shelf.Strings.IndexAnyAll
namespace Go.Proofs.YtaihipdebmcmhaaDoor.Splits
open Go.RowKit Go.Proofs.YtaihipdebmcmhaaDoorW.PrintWords Go.Lib
set_option linter.unusedVariables false
set_option linter.unusedSimpArgs false
theorem decode_conts (s : ByteArray) (pos : Nat) (h : pos < s.size) (ha : 128 ≤ (s[pos]'h).toNat) :
    ∀ j, j < (Utf8.decode s pos).2 → ∃ x : UInt8, s.data.toList[pos + j]? = some x ∧ 128 ≤ x.toNat := by
  have key : ∀ k, (decide (pos + k < s.size) && (s.get! (pos + k)).toNat / 64 == 2) = true → ∃ x : UInt8, s.data.toList[pos + k]? = some x ∧ 128 ≤ x.toNat := by
    intro k hk
    rw [Bool.and_eq_true, decide_eq_true_eq, beq_iff_eq] at hk
    obtain ⟨h1, h2⟩ := hk
    have e : s.get! (pos + k) = s[pos + k]'h1 := by
      have := get_at s (pos + k) h1
      simpa using this
    rw [e] at h2
    exact ⟨s[pos + k]'h1, Lib.data_getElem? s (pos + k) h1, by omega⟩
  have k0 : ∃ x : UInt8, s.data.toList[pos + 0]? = some x ∧ 128 ≤ x.toNat := ⟨s[pos]'h, Lib.data_getElem? s pos h, ha⟩
  have hn : ¬ (s[pos]'h).toNat < 128 := by omega
  intro j hj
  simp only [Utf8.decode, get_at s pos h, hn, if_false] at hj
  have one : j < 1 → ∃ x : UInt8, s.data.toList[pos + j]? = some x ∧ 128 ≤ x.toNat := fun h => by
    obtain rfl : j = 0 := by omega
    exact k0
  split at hj
  · rename_i h1
    rw [Bool.and_eq_true] at h1
    split at hj
    · have hj : j < 2 := hj
      match j, hj with
      | 0, _ => exact k0
      | 1, _ => exact key 1 h1.2
    · exact one hj
  · split at hj
    · rename_i h1
      rw [Bool.and_eq_true, Bool.and_eq_true] at h1
      split at hj
      · have hj : j < 3 := hj
        match j, hj with
        | 0, _ => exact k0
        | 1, _ => exact key 1 h1.1.2
        | 2, _ => exact key 2 h1.2
      · exact one hj
    · split at hj
      · rename_i h1
        rw [Bool.and_eq_true, Bool.and_eq_true, Bool.and_eq_true] at h1
        split at hj
        · have hj : j < 4 := hj
          match j, hj with
          | 0, _ => exact k0
          | 1, _ => exact key 1 h1.1.1.2
          | 2, _ => exact key 2 h1.1.2
          | 3, _ => exact key 3 h1.2
        · exact one hj
      · exact one hj
theorem noAny_steps {s : ByteArray} {i : Nat} {cs : List UInt8} (hcs : ∀ x, x ∈ cs → x.toNat < 128) (h : Lib.NoAny s.data.toList cs i) : ∀ n, (∀ j, j < n → ∃ x : UInt8, s.data.toList[i + j]? = some x ∧ 128 ≤ x.toNat) → Lib.NoAny s.data.toList cs (i + n) := by
  intro n
  induction n with
  | zero => intro _; exact h
  | succ n ih =>
    intro hn
    obtain ⟨x, h1, h2⟩ := hn n (by omega)
    refine (ih (fun j hj => hn j (by omega))).succ h1 ?_
    cases hc : cs.contains x with
    | false => rfl
    | true =>
      have := hcs x (by simpa using hc)
      omega
theorem steps_le {s : ByteArray} {i n : Nat} (hn : 1 ≤ n) (h : ∀ j, j < n → ∃ x : UInt8, s.data.toList[i + j]? = some x ∧ 128 ≤ x.toNat) : i + n ≤ s.size := by
  obtain ⟨x, h1, _⟩ := h (n - 1) (by omega)
  have := (List.getElem?_eq_some_iff.1 h1).1
  rw [← Lib.size_eq] at this
  omega
set_option maxHeartbeats 2000000 in
set_option maxRecDepth 100000 in
theorem indexAny_short (s : ByteArray) (w : World) (h8 : s.size ≤ 8) :
    Calls Tryd.prog 25 #[.string s, .string ⟨#[32, 9]⟩] w fun e w' => e = .returned (.int .i64 (Lib.indexAny s.data.toList [32, 9])) ∧ Below w.heap.size w w' := by
  have h8z : decide ((8 : Int) < (s.size : Int)) = false := decide_eq_false (by omega)
  obtain ⟨B, hB⟩ : ∃ B, w.heap.size = B := ⟨_, rfl⟩
  go_enter Tryd.func25, Tryd.ntmps25
  go_wp2_with (go_at_call 49; refine (Any.strings_shouldUseASCIISet (P := Tryd.prog) { Tryd.lays153 with } _ _).mono ?_; rintro e w' ⟨rfl, hw⟩; rw [hw, h8z])
  go_loopg [9, 10] s.size (fun g _ _ wx => ∃ i : Nat, i + g = s.size ∧ wx.heap[B]? = some (.stringIter s i) ∧ Below w.heap.size w wx ∧ Lib.NoAny s.data.toList [32, 9] i)
  case atStart => exact ⟨0, by omega, hB ▸ World.iter_heap w s 0, (Below.refl _ _).alloc (Nat.le_refl _) _, Lib.NoAny.zero _ _⟩
  case round =>
    obtain ⟨i, hig, hit, hbw, hno⟩ := hrel
    have HN : Aside0 (Lib.NoAny s.data.toList [32, 9] i) := ⟨hno⟩
    have HBW : Aside0 (Below w.heap.size w wr) := ⟨hbw⟩
    have HIT : Aside0 (wr.heap[B]? = some (.stringIter s i)) := ⟨hit⟩
    clear hno hbw
    cases gk with
    | zero =>
      obtain rfl : i = s.size := by omega
      have hnx := fun ty => run_next_end_at (P := Tryd.prog) wr B s s.size ty hit (by omega)
      clear hit
      go_wp2
      go_ret
      exact ⟨by rw [Lib.indexAny_none (by rw [← Lib.size_eq]; exact HN.out)]; rfl, HBW.out⟩
    | succ g =>
      have hi : i < s.size := by omega
      have hBw : w.heap.size ≤ B := by omega
      obtain ⟨x, hx⟩ : ∃ x : UInt8, s[i]'hi = x := ⟨_, rfl⟩
      have hxl : s.data.toList[i]? = some x := by rw [← hx]; exact Lib.data_getElem? s i hi
      by_cases hx128 : x.toNat < 128
      · have hnx := fun ty => run_next_ascii_at (P := Tryd.prog) wr B s i ty hit hi (by rw [hx]; exact hx128)
        rw [hx] at hnx
        have Hx : Aside0 (s.data.toList[i]? = some x) := ⟨hxl⟩
        have HIT2 := Aside0.mk (iterAt_heap wr B s i (i + 1) hit)
        have HBW2 := Aside0.mk (below_iterAt HBW.out hBw s (i + 1))
        clear hxl hx hit
        have hcon := Lib.contains_iff_indexByte [32, 9] x
        have hback : ((x.toNat : Int)).toNat.toUInt8 = x := by simp
        obtain ⟨W, hW⟩ : ∃ W, wr.iterAt B s (i + 1) = W := ⟨_, rfl⟩
        rw [hW] at hnx HIT2 HBW2
        cases hin : ([32, 9] : List UInt8).contains x
        · rw [hin] at hcon
          have hlt : ¬ ((0 : Int) ≤ Lib.indexByte [32, 9] x) := of_decide_eq_false hcon.symm
          clear hcon
          go_wp2_with (go_at_call 48; refine (Tryd.strings_IndexRune_ascii _ _ _ (by omega) (by omega)).mono ?_; rintro e w' ⟨rfl, hw⟩; rw [hw, hback])
          go_roundg g
          case measure => omega
          case rel => exact ⟨i + 1, by omega, HIT2.out, HBW2.out, HN.out.succ Hx.out hin⟩
        · rw [hin] at hcon
          have hge : (0 : Int) ≤ Lib.indexByte [32, 9] x := of_decide_eq_true hcon.symm
          clear hcon
          go_wp2_with (go_at_call 48; refine (Tryd.strings_IndexRune_ascii _ _ _ (by omega) (by omega)).mono ?_; rintro e w' ⟨rfl, hw⟩; rw [hw, hback])
          go_ret
          exact ⟨by rw [Lib.indexAny_hit HN.out Hx.out hin]; rfl, HBW2.out⟩
      · have hh : 128 ≤ (s[i]'hi).toNat := by rw [hx]; omega
        obtain ⟨d1, d2⟩ := decode_high s i hi hh
        have hst := decode_conts s i hi hh
        have hnx := fun ty => run_next_any_at (P := Tryd.prog) wr B s i ty hit hi
        obtain ⟨r, hr⟩ : ∃ r, (Utf8.decode s i).1 = r := ⟨_, rfl⟩
        obtain ⟨n, hn⟩ : ∃ n, (Utf8.decode s i).2 = n := ⟨_, rfl⟩
        rw [hn] at hst d2
        rw [hr] at d1
        rw [hr, hn] at hnx
        have hle := steps_le d2 hst
        have HS := Aside0.mk (noAny_steps (by decide) HN.out n hst)
        have HIT2 := Aside0.mk (iterAt_heap wr B s i (i + n) hit)
        have HBW2 := Aside0.mk (below_iterAt HBW.out hBw s (i + n))
        obtain ⟨W, hW⟩ : ∃ W, wr.iterAt B s (i + n) = W := ⟨_, rfl⟩
        rw [hW] at hnx HIT2 HBW2
        have hsz : W.heap.size = wr.heap.size := by rw [← hW, iterAt_size]
        have hBlt : B < W.heap.size := (Array.getElem?_eq_some_iff.1 HIT2.out).1
        clear hst hit hx hxl hh
        go_wp2_with (go_at_call 48; refine (indexRune_high (r : Int) _ (by omega)).mono ?_; rintro e w2 ⟨rfl, hb2⟩)
        go_roundg (s.size - (i + n))
        case measure => omega
        case rel => exact ⟨i + n, by omega, by rw [hb2.block B hBlt]; exact HIT2.out, HBW2.out.trans (hb2.mono (HBW2.out.size)), HS.out⟩
end Go.Proofs.YtaihipdebmcmhaaDoor.Splits
