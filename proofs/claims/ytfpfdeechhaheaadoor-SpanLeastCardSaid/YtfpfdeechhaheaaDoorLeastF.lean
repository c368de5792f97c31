/- SpanLeast: the law's function over span.Least. -/
import Derived.Test.YtfpfdeechhaheaaDoorLeastR
import Derived.Test.YtfpfdeechhaheaaDoorReadsT
namespace Go.Proofs.YtfpfdeechhaheaaDoor.Least
open Go.RowKit Go.Shelf Go.Proofs.YtfpfdeechhaheaaDoorW.PrintWords Go.Proofs.YtfpfdeechhaheaaDoorW.PrintLast
set_option linter.unusedVariables false
theorem st_some : ∀ l : List Int, (st l).2 = !l.isEmpty := by
  intro l
  rcases List.eq_nil_or_concat l with rfl | ⟨v, c, rfl⟩
  · rfl
  · rw [List.concat_eq_append, st_snoc]
    simp
theorem st_least : ∀ (n : Nat) (l : List Int), l.length = n → l ≠ [] → (st l).1 ∈ l ∧ ∀ x ∈ l, (st l).1 ≤ x := by
  intro n
  induction n with
  | zero => intro l h hn; exact absurd (List.length_eq_zero_iff.1 h) hn
  | succ n ih =>
    intro l h hn
    rcases List.eq_nil_or_concat l with rfl | ⟨v, c, rfl⟩
    · exact absurd rfl hn
    · rw [List.concat_eq_append] at h ⊢
      rw [st_snoc]
      have hv := st_some v
      by_cases hve : v = []
      · subst hve
        rw [if_pos (.inl rfl)]
        exact ⟨by simp, fun x hx => by simp at hx; omega⟩
      · obtain ⟨h1, h2⟩ := ih v (by simpa using h) hve
        have hv2 : (st v).2 = true := by rw [hv]; cases v with | nil => exact absurd rfl hve | cons _ _ => rfl
        by_cases hc : c < (st v).1
        · rw [if_pos (.inr hc)]
          refine ⟨by simp, fun x hx => ?_⟩
          rcases List.mem_append.1 hx with hx | hx
          · have := h2 x hx; show c ≤ x; omega
          · rw [List.mem_singleton.1 hx]; exact Int.le_refl _
        · rw [if_neg (by rintro (h | h); rw [hv2] at h; exact Bool.noConfusion h; exact hc h)]
          refine ⟨List.mem_append_left _ h1, fun x hx => ?_⟩
          rcases List.mem_append.1 hx with hx | hx
          · exact h2 x hx
          · rw [List.mem_singleton.1 hx]; show (st v).1 ≤ c; omega
/-- whether the least was met among the first -/
def met (m : Int) (l : List Int) : Bool := l.any (· == m)
theorem met_snoc (m x : Int) (l : List Int) : met m (l ++ [x]) = (met m l || (x == m)) := by simp [met]
theorem met_all {m : Int} {l : List Int} (h : m ∈ l) : met m l = true := by
  unfold met
  rw [List.any_eq_true]
  exact ⟨m, h, by simp⟩
theorem call14 (A : Option Addr) (cap : Nat) (l : List Int) (w W1 : World) (hlen : l.length ≤ 200) (hB0 : Boxed W1 w.heap.size 39 (.slice A l.length cap)) (hbw : Below w.heap.size w W1)
    (hc0 : ∀ j, j < l.length → ∃ ad, A = some ad ∧ w.cell? (ad.add j) = some (.int .i64 (l[j]?.getD 0))) :
    Calls Tryd.prog 14 #[.func (.func 15) #[] #[.pointer (some ⟨w.heap.size, 0, none⟩), .pointer (some ⟨W1.heap.size, 0, none⟩)]] (W1.alloc (.cells #[.int .i64 0] 3)) fun e w' =>
      e = .returned (.tuple #[.int .i64 (st l).1, .bool (st l).2]) ∧ Below w.heap.size w w' ∧ Boxed w' w.heap.size 39 (.slice A l.length cap) ∧ Boxed w' W1.heap.size 3 (.int .i64 l.length) ∧ (∀ j, j < l.length → ∃ ad, A = some ad ∧ w'.cell? (ad.add j) = some (.int .i64 (l[j]?.getD 0))) := by
  have hsz := hbw.size
  have hB0l := hB0.lt
  have hb2 : Below w.heap.size w (W1.alloc (.cells #[.int .i64 0] 3)) := hbw.alloc (by omega) _
  have blk : ∀ (ad : Addr) (j : Nat), (ad.add j).block = ad.block := by
    intro ad j
    unfold Addr.add
    split <;> rfl
  refine (callsIn_wide.1 (least_in Fence.wide 3 trivial trivial rfl (by omega) w.heap.size W1.heap.size w.heap.size A cap l hlen (W1.alloc (.cells #[.int .i64 0] 3)) (hB0.alloc _) (Boxed.new W1 3 (.int .i64 0)) (by omega) (by omega) ?_)).mono ?_
  · intro j hj
    obtain ⟨ad, e1, e2⟩ := hc0 j hj
    have hl := World.block_lt_of_cell? w _ e2
    have hl2 := hl
    rw [blk] at hl2
    exact ⟨ad, e1, by omega, (hb2.cell (p := ad.add j) hl).trans e2⟩
  · rintro e w' ⟨h1, h2, h3, h4⟩
    refine ⟨h1, hb2.trans h2, h3, h4, fun j hj => ?_⟩
    obtain ⟨ad, e1, e2⟩ := hc0 j hj
    have hl := World.block_lt_of_cell? w _ e2
    exact ⟨ad, e1, ((hb2.trans h2).cell (p := ad.add j) hl).trans e2⟩
set_option maxHeartbeats 4000000 in
set_option maxRecDepth 100000 in
theorem law_calls (A : Option Addr) (cap : Nat) (l : List Int) (w : World) (hr : ReadsInt w .i64 A l.length l) (hcap : l.length ≤ cap) (hs : w.ShapedOpen Tryd.prog) :
    Calls Tryd.prog 6 #[.slice A l.length cap] w fun e w' => e = .returned (.bool true) ∧ Below w.heap.size w w' := by
  have HS := Aside0.mk hs
  clear hs
  go_enter Tryd.func6, Tryd.ntmps6
  have hc0 : ∀ j, j < l.length → ∃ ad, A = some ad ∧ w.cell? (ad.add j) = some (.int .i64 (l[j]?.getD 0)) := by
    intro j hj
    obtain ⟨ad, e1, e2⟩ := hr.at_ (j : Int) (by omega) (by omega)
    refine ⟨ad, e1, ?_⟩
    rw [Int.toNat_natCast] at e2
    rw [e2]
    unfold rd
    rw [List.getD_eq_getElem?_getD, Int.toNat_natCast]
  have hbox := Boxed.new w 39 (.slice A l.length cap)
  by_cases c1 : 200 < l.length
  · have d1 : decide (200 < l.length) = true := decide_eq_true c1
    have d2 : decide ((200 : Int) < (l.length : Int)) = true := decide_eq_true (by omega)
    go_wp2_with (go_at_call 8; refine (Reads.reveillelaw1_known.calls true _ rfl ⟨w, HS.out, (Below.refl _ _).alloc (Nat.le_refl _) _⟩).mono ?_; rintro e W1 ⟨rfl, hW⟩; have hB := (Boxed.under hbox hW (by simp)).cell)
    go_ret
    exact ⟨rfl, ((Below.refl _ w).alloc (Nat.le_refl _) _).trans (hW.mono (by simp))⟩
  · have d1 : decide (200 < l.length) = false := decide_eq_false c1
    have d2 : decide ((200 : Int) < (l.length : Int)) = false := decide_eq_false (by omega)
    by_cases hl0 : l = []
    · have hst : st l = (0, false) := by rw [hl0]; rfl
      have z1 : ((l.length : Int) == 0) = true := by rw [hl0]; rfl
      have z2 : (l.length == 0) = true := by rw [hl0]; rfl
      clear hl0
      go_wp2_with (first
        | (go_at_call 8; refine (Reads.reveillelaw1_known.calls true _ rfl ⟨w, HS.out, (Below.refl _ _).alloc (Nat.le_refl _) _⟩).mono ?_; rintro e W1 ⟨rfl, hW⟩; have hB0 := Boxed.under hbox hW (by simp); have hB := hB0.cell; have hbw : Below w.heap.size w W1 := ((Below.refl _ w).alloc (Nat.le_refl _) _).trans (hW.mono (by simp)))
        | (go_at_call 14; refine (call14 A cap l w _ (by omega) hB0 hbw hc0).mono ?_; rw [hst]; rintro e W4 ⟨rfl, hb4, hB4, hG4, hc4⟩; have hBc4 := hB4.cell; have hGc4 := hG4.cell))
      go_ret
      exact ⟨rfl, hb4⟩
    · have hlen : 0 < l.length := by
        cases l with
        | nil => exact absurd rfl hl0
        | cons _ _ => simp
      obtain ⟨hm1, hm2⟩ := st_least l.length l rfl hl0
      obtain ⟨m, hst⟩ : ∃ m, st l = (m, true) := by
        have := st_some l
        refine ⟨(st l).1, Prod.ext rfl ?_⟩
        rw [this]
        cases l with
        | nil => exact absurd rfl hl0
        | cons _ _ => rfl
      rw [hst] at hm1 hm2
      have z1 : ((l.length : Int) == 0) = false := beq_eq_false_iff_ne.mpr (by omega)
      have z2 : (l.length == 0) = false := beq_eq_false_iff_ne.mpr (by omega)
      go_wp2_with (first
        | (go_at_call 8; refine (Reads.reveillelaw1_known.calls true _ rfl ⟨w, HS.out, (Below.refl _ _).alloc (Nat.le_refl _) _⟩).mono ?_; rintro e W1 ⟨rfl, hW⟩; have hB0 := Boxed.under hbox hW (by simp); have hB := hB0.cell; have hbw : Below w.heap.size w W1 := ((Below.refl _ w).alloc (Nat.le_refl _) _).trans (hW.mono (by simp)))
        | (go_at_call 14; refine (call14 A cap l w _ (by omega) hB0 hbw hc0).mono ?_; rw [hst]; rintro e W4 ⟨rfl, hb4, hB4, hG4, hc4⟩; have hBc4 := hB4.cell; have hGc4 := hG4.cell))
      go_loopg [6, 7] l.length (fun g v6 v7 wx => ∃ i : Nat, i + g = l.length ∧ v6 = .bool (met m (l.take i)) ∧ v7 = .int .i64 i ∧ wx = W4)
      case atStart => exact ⟨0, by omega, rfl, rfl, rfl⟩
      case round =>
        obtain ⟨i, hig, rfl, rfl, rfl⟩ := hrel
        cases gk with
        | zero =>
          obtain rfl : i = l.length := by omega
          rw [List.take_length, met_all hm1]
          go_wp2
          go_ret
          exact ⟨rfl, hb4⟩
        | succ g =>
          have hi : i < l.length := by omega
          obtain ⟨ad, rfl, hcell⟩ := hc4 i hi
          have hge : m ≤ l[i] := hm2 _ (List.getElem_mem hi)
          have hn : decide (l[i] < m) = false := decide_eq_false (by omega)
          have htake : l.take i ++ [l[i]] = l.take (i + 1) := by rw [List.take_append_getElem hi]
          have hmet := met_snoc m l[i] (l.take i)
          rw [htake] at hmet
          cases hmt : met m (l.take i) with
          | false =>
            rw [hmt] at hmet
            go_wp2
            go_roundg g
            case rel => exact ⟨i + 1, by omega, by rw [hmet]; rfl, by simp, rfl⟩
            case measure => omega
          | true =>
            rw [hmt] at hmet
            go_wp2
            go_roundg g
            case rel => exact ⟨i + 1, by omega, by rw [hmet]; rfl, by simp, rfl⟩
            case measure => omega
theorem law_frame (a0 : Option Addr) (len0 cap0 : Nat) (z0 : List Int) (w : World) (w0 : (a0 = none ∧ len0 = 0 ∧ cap0 = 0 ∧ z0 = []) ∨ ∃ x, a0 = some x ∧ len0 ≤ cap0 ∧ cap0 ≤ maxLen ∧ z0.length = cap0 ∧ (∀ i, i < z0.length → w.cell? (x.add i) = some (.int .i64 (z0.getD i 0))) ∧ ∀ n ∈ z0, (Lit.int .i64 n).wf = true) (hs : w.ShapedOpen Tryd.prog) :
    Calls Tryd.prog 6 #[.slice a0 len0 cap0] w fun e w' => e = .returned (.bool true) ∧ Below w.heap.size w w' := by
  obtain ⟨l0, rfl, hr0, hm0, hw0, hc0⟩ := ReadsInt.ofRowC w0
  exact law_calls a0 cap0 l0 w hr0 hc0 hs
end Go.Proofs.YtfpfdeechhaheaaDoor.Least
