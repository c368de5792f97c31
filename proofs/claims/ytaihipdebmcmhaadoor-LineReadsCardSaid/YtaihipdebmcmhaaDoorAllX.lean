/- line.All's iterator over a row of lines, with the law's gathering function. -/
import Derived.Test.YtaihipdebmcmhaaDoorAllW
namespace Go.Proofs.YtaihipdebmcmhaaDoor.Lines
open Go.RowKit Go.Shelf Go.Proofs.YtaihipdebmcmhaaDoorW.PrintWords Go.Proofs.YtaihipdebmcmhaaDoorW.PrintLast
attribute [local go_sem] Oper.semAt_some
set_option linter.unusedVariables false
/-- how many are told -/
def cntOf (stop : Int) (n : Nat) : Nat := if 1 ≤ stop ∧ stop < (n : Int) then stop.toNat else n
theorem cnt_stop {stop : Int} {n k : Nat} (h : ((k + 1 : Nat) : Int) = stop) (hk : k < n) : cntOf stop n = k + 1 := by
  unfold cntOf
  split <;> omega
theorem cnt_next {stop : Int} {n k : Nat} (h : ((k + 1 : Nat) : Int) ≠ stop) (hk : k < n) (hc : k ≤ cntOf stop n) (hne : k = 0 ∨ ((k : Nat) : Int) ≠ stop) : k + 1 ≤ cntOf stop n := by
  unfold cntOf at *
  split at hc
  · rename_i h1; rw [if_pos h1]; omega
  · rename_i h1; rw [if_neg h1]; omega
theorem cnt_end {stop : Int} {n : Nat} (hc : n ≤ cntOf stop n) : cntOf stop n = n := by
  unfold cntOf at *
  split at hc
  · rename_i h1; rw [if_pos h1]; omega
  · rename_i h1; rw [if_neg h1]
theorem take_rd (l : List S31) (k : Nat) (h : k < l.length) : l.take (k + 1) = l.take k ++ [rd_T31 l (k : Int)] := by
  unfold rd_T31
  rw [Int.toNat_natCast, List.take_add_one, List.getD_eq_getElem?_getD, List.getElem?_eq_getElem h]
  rfl
theorem meas3 {N k : Nat} {i : Int} (h1 : i = ((k + 1 : Nat) : Int)) (h2 : k < N) : N - (intOf (.int .i64 i)).toNat < N - (intOf (.int .i64 (k : Int))).toNat := by
  subst h1
  show N - (((k + 1 : Nat) : Int)).toNat < N - ((k : Int)).toNat
  rw [Int.toNat_natCast, Int.toNat_natCast]
  omega
theorem wrap_up {k : Nat} (h : k ≤ 100000) : wrap64 ((k : Int) + 1) = ((k + 1 : Nat) : Int) := by unfold wrap64; omega
theorem lt_int {k n : Nat} (h : k < n) : ((k : Int) < (n : Int)) = True := eq_true (by omega)
set_option maxRecDepth 100000 in
set_option maxHeartbeats 4000000 in
theorem each_calls (A S M B B0 nb : Nat) (stop : Int) (am : Option Addr) (ml mc : Nat) (l : List S31) (vl : Value) (W : World)
    (hv : Boxed W A 26 (.slice none 0 0)) (hS : Boxed W S 3 (.int .i64 stop)) (hM : Boxed W M 26 (.slice am ml mc)) (hBx : Boxed W B 26 vl) (hl : W.ownsRow nb 31 4 vl l.length (l.flatMap cells31))
    (hSA : S ≠ A) (hMA : M ≠ A) (hBA : B ≠ A) (hB0 : B0 ≤ A) (hlen : l.length ≤ 4001) (hml : l.length ≤ ml) :
    Calls Tryd.prog 30 #[.func (.func 18) #[] #[.pointer (some ⟨A, 0, none⟩), .pointer (some ⟨S, 0, none⟩), .pointer (some ⟨M, 0, none⟩)], .pointer (some ⟨B, 0, none⟩)] W fun e W' =>
      (∃ v, e = .returned v) ∧ (∃ v', Boxed W' A 26 v' ∧ W'.ownsRow W.heap.size 31 4 v' (l.take (cntOf stop l.length)).length ((l.take (cntOf stop l.length)).flatMap cells31)) ∧ KeptBut W.heap.size A W W' ∧ Below B0 W W' := by
  obtain ⟨la, lc, rfl⟩ := own_slice hl
  have hAn := hv.lt
  have hSn := hS.lt
  have hMn := hM.lt
  have hBn := hBx.lt
  have hBc := hBx.cell
  refine (callsIn_wide (n := 1)).1 ?_
  refine callsIn_of_wp Tryd.func30 rfl trivial ?_ rfl
  simp only [Tryd.ntmps30, List.size_toArray, List.length_cons, List.length_nil, Nat.reduceAdd, Nat.reduceSub, Array.replicate_succ, Array.replicate_zero, List.push_toArray, List.append_toArray, List.nil_append, List.cons_append]
  gi_wp2
  gi_loopw [7] (fun i wr => ∃ k : Nat, i = .int .i64 k ∧ k ≤ l.length ∧ k ≤ cntOf stop l.length ∧ (k = 0 ∨ ((k : Nat) : Int) ≠ stop) ∧ (∃ v', Boxed wr A 26 v' ∧ wr.ownsRow W.heap.size 31 4 v' (l.take k).length ((l.take k).flatMap cells31)) ∧ KeptBut W.heap.size A W wr ∧ Below B0 W wr ∧ W.heap.size ≤ wr.heap.size)
    (fun i _ => l.length - (intOf i).toNat)
  case atStart => exact ⟨0, rfl, Nat.zero_le _, Nat.zero_le _, .inl rfl, ⟨_, hv, by simpa using World.ownsRow_nil ..⟩, KeptBut.refl _ _ _, Below.refl _ _, Nat.le_refl _⟩
  case round =>
    obtain ⟨k, rfl, hk, hkc, hks, ⟨v', hv', hrow'⟩, hkept, hbel, hsz⟩ := hrel
    by_cases hlt : k < l.length
    · have hlt2 := lt_int hlt
      have hlr : wr.ownsRow nb 31 4 (.slice la l.length lc) l.length (l.flatMap cells31) := own_move hl (fun j hj => hkept j (hl.lt j hj).2 (by
        rintro rfl
        exact hv.not_row (by decide) hl hj.symm))
      obtain ⟨lA, c0, hee, _, hC⟩ := Kd.R_reads (own_R hlr)
      obtain ⟨rfl, rfl⟩ : la = lA ∧ lc = c0 := by injection hee with h1 h2 h3; exact ⟨h1, h3⟩
      obtain ⟨ad, ead, hx0, hx1, hx2, hx3⟩ := at_T31 hC (k : Int) (by omega) (by omega)
      have hgot := fun (X : World) (hX : Below wr.heap.size wr X) => got_calls W.heap.size A S M B0 stop am ml mc (rd_T31 l (k : Int)) (l.take k) v' X (under hv' hX hv'.lt) (pw_own_below hrow' hX) (under (hkept.box hS hSn hSA) hX (Nat.lt_of_lt_of_le hSn hsz)) (under (hkept.box hM hMn hMA) hX (Nat.lt_of_lt_of_le hMn hsz)) hAn hSn hMn hSA hMA hB0 (Nat.le_trans hsz hX.size) (by rw [List.length_take]; omega)
      have htk : (l.take k).length = k := by rw [List.length_take]; omega
      subst ead
      rw [Int.toNat_natCast] at hx0 hx1 hx2 hx3
      have HK := Aside0.mk (hkept.trans (kept_alloc (A := A) hsz (.cells #[.int .i64 (rd_T31 l (k : Int)).f0, .string (rd_T31 l (k : Int)).f1, .string (rd_T31 l (k : Int)).f2, .int .i64 (rd_T31 l (k : Int)).f3] 31)))
      have HBE := Aside0.mk (hbel.alloc (Nat.le_trans (Nat.le_trans hB0 (Nat.le_of_lt hAn)) hsz) (.cells #[.int .i64 (rd_T31 l (k : Int)).f0, .string (rd_T31 l (k : Int)).f1, .string (rd_T31 l (k : Int)).f2, .int .i64 (rd_T31 l (k : Int)).f3] 31))
      have HAR := Aside0.mk (show k ≤ l.length ∧ k ≤ cntOf stop l.length ∧ (k = 0 ∨ ((k : Nat) : Int) ≠ stop) ∧ k < l.length ∧ l.length ≤ 4001 ∧ W.heap.size ≤ wr.heap.size from ⟨hk, hkc, hks, hlt, hlen, hsz⟩)
      have hk0 : (0 : Int) ≤ (k : Int) := Int.natCast_nonneg k
      by_cases hs : ((k + 1 : Nat) : Int) = stop
      · have hb : (decide (((k + 1 : Nat) : Int) ≠ stop) && decide (k + 1 ≤ ml)) = false := by rw [decide_eq_false (fun h => h hs), Bool.false_and]
        have HS := Aside0.mk hs
        have hgot2 : ∀ X, Below wr.heap.size wr X → Calls Tryd.prog 18 #[.agg #[.int .i64 (rd_T31 l (k : Int)).f0, .string (rd_T31 l (k : Int)).f1, .string (rd_T31 l (k : Int)).f2, .int .i64 (rd_T31 l (k : Int)).f3], .pointer (some ⟨A, 0, none⟩), .pointer (some ⟨S, 0, none⟩), .pointer (some ⟨M, 0, none⟩)] X fun e W' =>
            e = .returned (.bool false) ∧ (∃ v', Boxed W' A 26 v' ∧ W'.ownsRow W.heap.size 31 4 v' (l.take (k + 1)).length ((l.take (k + 1)).flatMap cells31)) ∧ KeptBut W.heap.size A X W' ∧ Below B0 X W' := by
          intro X hX
          have := hgot X hX
          rw [htk, hb, ← take_rd l k hlt] at this
          exact this
        have HG := Aside0.mk hgot2
        clear hgot hgot2 hs hb hks hkc hk hkept hbel hsz hlen hml htk hl hv hS hM hBx hlr hC hee hrow' hv' hlt hSA hMA hBA hB0
        gi_wp2_with (refine ⟨trivial, ?_⟩; gi_at_call 18; refine (callsIn_wide.2 (HG.out _ ((Below.refl _ wr).alloc (Nat.le_refl _) _))).mono ?_; rintro e w3 ⟨rfl, ⟨v3, hv3, hrow3⟩, hk3, hb3⟩)
        refine bodyPost_ret (results_none rfl _ _ _) rfl ?_
        refine ⟨⟨_, rfl⟩, ⟨v3, hv3, ?_⟩, HK.out.trans hk3, HBE.out.trans hb3⟩
        rw [cnt_stop HS.out HAR.out.2.2.2.1]
        exact hrow3
      · have hb : (decide (((k + 1 : Nat) : Int) ≠ stop) && decide (k + 1 ≤ ml)) = true := by rw [decide_eq_true hs, decide_eq_true (by omega)]; rfl
        have HS := Aside0.mk hs
        have hgot2 : ∀ X, Below wr.heap.size wr X → Calls Tryd.prog 18 #[.agg #[.int .i64 (rd_T31 l (k : Int)).f0, .string (rd_T31 l (k : Int)).f1, .string (rd_T31 l (k : Int)).f2, .int .i64 (rd_T31 l (k : Int)).f3], .pointer (some ⟨A, 0, none⟩), .pointer (some ⟨S, 0, none⟩), .pointer (some ⟨M, 0, none⟩)] X fun e W' =>
            e = .returned (.bool true) ∧ (∃ v', Boxed W' A 26 v' ∧ W'.ownsRow W.heap.size 31 4 v' (l.take (k + 1)).length ((l.take (k + 1)).flatMap cells31)) ∧ KeptBut W.heap.size A X W' ∧ Below B0 X W' := by
          intro X hX
          have := hgot X hX
          rw [htk, hb, ← take_rd l k hlt] at this
          exact this
        have HG := Aside0.mk hgot2
        clear hgot hgot2 hs hb hks hkc hk hkept hbel hsz hlen hml htk hl hv hS hM hBx hlr hC hee hrow' hv' hlt hSA hMA hBA hB0
        gi_wp2_with (refine ⟨trivial, ?_⟩; gi_at_call 18; refine (callsIn_wide.2 (HG.out _ ((Below.refl _ wr).alloc (Nat.le_refl _) _))).mono ?_; rintro e w3 ⟨rfl, ⟨v3, hv3, hrow3⟩, hk3, hb3⟩)
        go_roundw
        case rel => exact ⟨k + 1, by rw [wrap_up (Nat.le_trans HAR.out.1 (Nat.le_trans HAR.out.2.2.2.2.1 (by decide)))], HAR.out.2.2.2.1, cnt_next HS.out HAR.out.2.2.2.1 HAR.out.2.1 HAR.out.2.2.1, .inr HS.out, ⟨v3, hv3, hrow3⟩, HK.out.trans hk3, HBE.out.trans hb3, Nat.le_trans (Nat.le_trans HAR.out.2.2.2.2.2 (World.grownBy_alloc _ _ none).size) hb3.size⟩
        case measure => exact meas3 (wrap_up (Nat.le_trans HAR.out.1 (Nat.le_trans HAR.out.2.2.2.2.1 (by decide)))) HAR.out.2.2.2.1
    · obtain rfl : k = l.length := by omega
      have hlt2 : ((l.length : Int) < (l.length : Int)) = False := eq_false (by omega)
      gi_wp2
      go_end0
      refine ⟨⟨_, rfl⟩, ⟨v', hv', ?_⟩, hkept, hbel⟩
      rw [cnt_end hkc]
      exact hrow'
end Go.Proofs.YtaihipdebmcmhaaDoor.Lines
