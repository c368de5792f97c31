/- The law LineNumbers over a slice of bytes that came in. -/
import Derived.Test.YtaihipdebmcmhaaDoorNumW
namespace Go.Proofs.YtaihipdebmcmhaaDoor.Lines
open Go.RowKit Go.Shelf Go.Proofs.YtaihipdebmcmhaaDoorW.PrintWords Go.Proofs.YtaihipdebmcmhaaDoorW.PrintLast
set_option linter.unusedVariables false
theorem numbers_big (A : Option Addr) (c n : Nat) (w : World) (hG : GW w) (h40 : 40 < n) :
    Calls Tryd.prog 3 #[.slice A n c] w fun e w' => e = .returned (.bool true) ∧ Below w.heap.size w w' := by
  have hsz : decide ((40 : Int) < (n : Int)) = true := decide_eq_true (by omega)
  go_enter Tryd.func3, Tryd.ntmps3
  go_wp2_with (go_at_call 9; refine (reveillelaw5_known.calls true _ rfl hG).mono ?_; rintro e w1 ⟨rfl, hb1⟩)
  go_ret
  exact ⟨rfl, hb1⟩
theorem numbers_nil (w : World) (hG : GW w) : Calls Tryd.prog 3 #[.slice none 0 0] w fun e w' => e = .returned (.bool true) ∧ Below w.heap.size w w' :=
  numbers_walk none 0 [] w (Nat.le_refl _) (fun i hi => absurd hi (Nat.not_lt_zero _)) hG (by decide)
theorem u8_wf (n : Int) (h : (Lit.int .u8 n).wf = true) : 0 ≤ n ∧ n < 256 := by
  simp [Lit.wf, IntKind.min, IntKind.max, IntKind.signed, IntKind.bits] at h
  omega
theorem numbers_row (x : Addr) (len cap : Nat) (zs : List Int) (w : World) (hl : len ≤ cap) (hz : zs.length = cap) (hc : ∀ i, i < zs.length → w.cell? (x.add i) = some (.int .u8 (zs.getD i 0))) (hw : ∀ n ∈ zs, (Lit.int .u8 n).wf = true) (hG : GW w) :
    Calls Tryd.prog 3 #[.slice (some x) len cap] w fun e w' => e = .returned (.bool true) ∧ Below w.heap.size w w' := by
  by_cases h40 : 40 < len
  · exact numbers_big _ _ _ _ hG h40
  · have e : (zs.take len).length = len := by rw [List.length_take]; omega
    have := numbers_walk (some x) cap (zs.take len) w (by omega) (fun i hi => ?_) hG (by omega)
    · rw [e] at this
      exact this
    · have hi2 : i < len := by omega
      have hi3 : i < zs.length := by omega
      have hcell := hc i hi3
      have hg : (zs.take len).getD i 0 = zs.getD i 0 := by
        rw [List.getD_eq_getElem?_getD, List.getD_eq_getElem?_getD, List.getElem?_take, if_pos hi2]
      have hlt := World.block_lt_of_cell? w _ hcell
      have hb : (x.add i).block = x.block := by unfold Addr.add; split <;> rfl
      have hm : zs.getD i 0 ∈ zs := by
        rw [List.getD_eq_getElem?_getD, List.getElem?_eq_getElem hi3]
        exact List.getElem_mem hi3
      obtain ⟨h0, h1⟩ := u8_wf _ (hw _ hm)
      rw [hg]
      exact ⟨x, rfl, by rw [← hb]; exact hlt, hcell, h0, h1⟩
end Go.Proofs.YtaihipdebmcmhaaDoor.Lines
