/- line.All as a contract, and the law LineReads walked. -/
import Derived.Test.YtaihipdebmcmhaaDoorAllX
namespace Go.Proofs.YtaihipdebmcmhaaDoor.Lines
open Go.RowKit Go.Shelf Go.Proofs.YtaihipdebmcmhaaDoorW.PrintWords Go.Proofs.YtaihipdebmcmhaaDoorW.PrintLast
attribute [local go_sem] Oper.semAt_some
set_option linter.unusedVariables false
/-- what line.Lines tells -/
def LF (s : List UInt8) : RL := if 4000 < s.length then ([], 0, 51) else linesF s
theorem lines_own (s : List UInt8) (w : World) (hG : GW w) :
    Calls Tryd.prog 11 #[.string (ba s)] w fun e w' => ∃ v, e = .returned (.tuple #[v, .int .i64 (LF s).2.1, .int .i64 (LF s).2.2]) ∧ w'.ownsRow w.heap.size 31 4 v (LF s).1.length ((LF s).1.flatMap cells31) ∧ Below w.heap.size w w' := by
  unfold LF
  by_cases h : 4000 < s.length
  · rw [if_pos h]
    refine (lines_long (ba s) (by rw [ba_size]; exact h) w).mono ?_
    rintro e w' ⟨v, h1, ⟨_, inner, ho, hr⟩, h3⟩
    obtain rfl : inner = [] := List.length_eq_zero_iff.1 hr.1
    exact ⟨v, h1, ho, h3⟩
  · rw [if_neg h]
    obtain ⟨m, hm, _, _⟩ := hG.maxLen
    have hgs : 0 < Tryd.prog.globals.size := by decide +kernel
    exact callsIn_wide.1 (lines_in 3 (Nat.le_refl _) s (by omega) (rowsL s) (rows_of _) (Nat.le_trans (tot_rows _) (by omega)) readF read_total w hG m hm (Nat.lt_of_lt_of_le hgs hG.size))
theorem LF_len (s : List UInt8) : (LF s).1.length ≤ 4001 := by
  unfold LF
  by_cases h : 4000 < s.length
  · rw [if_pos h]; exact Nat.zero_le _
  · rw [if_neg h]
    unfold linesF coll
    have h1 := items_len (rowsL s).length (rowsL s).length (rowsL s)
    have h2 := rowsL_len s
    cases (items (rowsL s).length (rowsL s).length (rowsL s)).find? (fun x => (readF x.2).err != 0) with
    | some x => exact Nat.zero_le _
    | none => dsimp only; rw [List.length_map]; omega
set_option maxRecDepth 100000 in
set_option maxHeartbeats 4000000 in
theorem all_calls (s : List UInt8) (w : World) (hG : GW w) :
    Calls Tryd.prog 17 #[.string (ba s)] w fun e w' => ∃ B vl, e = .returned (.func (.func 30) #[] #[.pointer (some ⟨B, 0, none⟩)]) ∧ Boxed w' B 26 vl ∧ w'.ownsRow w.heap.size 31 4 vl (LF s).1.length ((LF s).1.flatMap cells31) ∧ Below w.heap.size w w' ∧ w.heap.size ≤ B := by
  have h0 := lines_own s w hG
  go_enter Tryd.func17, Tryd.ntmps17
  go_wp2_with (go_at_call 11; refine h0.mono ?_; rintro e w1 ⟨v, rfl, hrow, hb⟩; obtain ⟨A, cp, rfl⟩ := own_slice hrow)
  go_ret
  exact ⟨_, _, rfl, Boxed.new _ _ _, hrow.alloc _, hb.alloc hb.size _, hb.size⟩
theorem eq_f (l : List S31) (hl : l.length ≤ 100000) : ∃ k, reveillehelp_Lines.f k l l = some true := by
  have key : ∀ (m i : Nat), i + m = l.length → ∃ k, reveillehelp_Lines.l0 k l l (i : Int) = some true := by
    intro m
    induction m with
    | zero =>
      intro i hi
      refine ⟨1, ?_⟩
      rw [reveillehelp_Lines.l0, if_neg (by omega)]
    | succ m ih =>
      intro i hi
      obtain ⟨k, hk⟩ := ih (i + 1) (by omega)
      refine ⟨k + 1, ?_⟩
      rw [reveillehelp_Lines.l0, if_pos (by omega), if_pos (by omega), if_pos (by omega), if_neg (by simp), wrap_up (by omega)]
      exact hk
  obtain ⟨k, hk⟩ := key l.length 0 (by omega)
  exact ⟨k, by unfold reveillehelp_Lines.f; rw [if_pos rfl]; exact hk⟩
theorem same_calls (A0 : Option Addr) (c0 : Nat) (A1 : Option Addr) (c1 n0 n1 : Nat) (l : List S31) (w : World) (e0 : n0 = l.length) (e1 : n1 = l.length) (hr0 : Kd.C k31 w A0 l.length l) (hc0 : l.length ≤ c0) (hr1 : Kd.C k31 w A1 l.length l) (hc1 : l.length ≤ c1) (hl : l.length ≤ 100000) :
    Calls Tryd.prog 16 #[.slice A0 n0 c0, .slice A1 n1 c1] w fun e w' => e = .returned (.bool true) ∧ Below w.heap.size w w' := by
  subst e0; subst e1
  obtain ⟨k, hk⟩ := eq_f l hl
  refine (reveillehelp_Lines.calls k A0 c0 l A1 c1 l true w hr0 hc0 hr1 hc1 hk).mono ?_
  rintro e w' ⟨h1, n, rfl⟩
  exact ⟨h1, pw_below_drewN (Below.refl _ _) n⟩
theorem ref_calls (s : List UInt8) (w : World) : Calls Tryd.prog 15 #[.string (ba s)] w fun e w' => ∃ A c, e = .returned (.tuple #[.slice A (LF s).1.length c, .int .i64 (LF s).2.1, .int .i64 (LF s).2.2]) ∧ Kd.R k31 31 w' w.heap.size (fun _ => True) (.slice A (LF s).1.length c) (LF s).1 ∧ Below w.heap.size w w' := by
  obtain ⟨k, hk⟩ := (ref_lines s).get
  refine (reveilleref5_Lines.calls k (ba s) (LF s).1 (LF s).2.1 (LF s).2.2 w hk).mono ?_
  rintro e w' ⟨v, h1, h2, h3⟩
  obtain ⟨A, c, rfl⟩ := Kd.R_slice h2
  exact ⟨A, c, h1, h2, h3⟩
end Go.Proofs.YtaihipdebmcmhaaDoor.Lines
