/- strings.IndexRune and strings.IndexAny at the two blanks, whatever the text. -/
import Derived.Test.YtaihipdebmcmhaaDoorShelf
import Derived.Shelf.Strings.SlTrimAscii
import Derived.Laws.RangeAny
import Derived.Laws.Runes
import Derived.WalkKit
import Derived.WalkMore
import Derived.Deep.QuietTactic
import Derived.BigQuiet
import Derived.Deep.LoopGhost
import Derived.KernelRfl
import Derived.Test.YtaihipdebmcmhaaDoorWWords
import Derived.Deep.RegionHeld3
import Derived.Deep.RegionWith
import Derived.Below
namespace Go.Proofs.YtaihipdebmcmhaaDoor.Splits
open Go.RowKit Go.Proofs.YtaihipdebmcmhaaDoorW.PrintWords
set_option linter.unusedVariables false
set_option linter.unusedSimpArgs false
def blankB : ByteArray := ⟨#[32, 9]⟩
set_option maxHeartbeats 1000000 in
set_option maxRecDepth 100000 in
theorem indexRune_high (r : Int) (w : World) (h1 : 128 ≤ r) :
    Calls Tryd.prog 48 #[.string ⟨#[32, 9]⟩, .int .i32 r] w fun e w' => e = .returned (.int .i64 (-1)) ∧ Below w.heap.size w w' := by
  have c1 : decide ((0 : Int) ≤ r) = true := decide_eq_true (by omega)
  have c2 : decide (r < 128) = false := decide_eq_false (by omega)
  by_cases he : r = 65533
  · subst he
    go_enter Tryd.func48, Tryd.ntmps48
    go_wp2
    go_loopg [5, 6] 2 (fun g _ _ wx => ∃ i : Nat, i + g = 2 ∧ wx = w.iter ⟨#[32, 9]⟩ i)
    case atStart => exact ⟨0, rfl, rfl⟩
    case round =>
      obtain ⟨i, hig, rfl⟩ := hrel
      have hend := run_next_end (P := Tryd.prog) w ⟨#[32, 9]⟩ 2
      have h0 := fun ty => run_next_ascii (P := Tryd.prog) w ⟨#[32, 9]⟩ 0 ty (by decide) (by decide)
      have h1 := fun ty => run_next_ascii (P := Tryd.prog) w ⟨#[32, 9]⟩ 1 ty (by decide) (by decide)
      have b0 : (⟨#[32, 9]⟩ : ByteArray)[0]'(by decide) = 32 := rfl
      have b1 : (⟨#[32, 9]⟩ : ByteArray)[1]'(by decide) = 9 := rfl
      rw [b0] at h0
      rw [b1] at h1
      replace hend := fun ty => hend ty (by decide)
      match gk, hig with
      | 0, hig =>
        obtain rfl : i = 2 := by omega
        go_wp2
        go_ret
        exact ⟨rfl, (Below.refl _ _).alloc (Nat.le_refl _) _⟩
      | 1, hig =>
        obtain rfl : i = 1 := by omega
        go_wp2
        go_roundg 0
        case measure => omega
        case rel => exact ⟨2, rfl, rfl⟩
      | 2, hig =>
        obtain rfl : i = 0 := by omega
        go_wp2
        go_roundg 1
        case measure => omega
        case rel => exact ⟨1, rfl, rfl⟩
      | n + 3, hig => omega
  · have c3 : (r == 65533) = false := beq_eq_false_iff_ne.2 he
    cases hv : Lib.validRune r
    · go_enter Tryd.func48, Tryd.ntmps48
      go_wp2_with (go_at_call 65; refine (Tryd.utf8_ValidRune _ _).mono ?_; rintro e w' ⟨rfl, hw⟩; rw [hw, hv])
      go_ret
      exact ⟨rfl, Below.refl _ _⟩
    · have hv' : Utf8.valid r = true := by rw [validRune_eq]; exact hv
      obtain ⟨f1, f2, f3⟩ := encode_facts r hv' h1
      obtain ⟨rs, hrs⟩ : ∃ s, Utf8.encode r = s := ⟨_, rfl⟩
      rw [hrs] at f1 f2 f3
      have hconv : ∀ w, (convert 21 9 (.int .i32 r)).run Tryd.prog w = .ok (.string rs) w := fun w => by rw [run_convert_int_string w 21 9 .i32 r (by rw [Tryd.underlying21]; rfl) Tryd.underlying9, hrs]
      have f4 : IntKind.i64.wrap ((rs.size : Int) - 1) = (rs.size : Int) - 1 := wrap_small _ (by omega) (by omega)
      go_enter Tryd.func48, Tryd.ntmps48
      by_cases hs2 : rs.size = 2
      · go_wp2_with (go_at_call 65; refine (Tryd.utf8_ValidRune _ _).mono ?_; rintro e w' ⟨rfl, hw⟩; rw [hw, hv])
        go_step3
        go_wp2
        have f5 : ∀ h : 1 < rs.size, 128 ≤ (rs[1]'h).toNat := by
          intro h
          have := f3 (by omega)
          simp only [hs2] at this
          exact this
        have h1s : 1 < rs.size := by omega
        obtain ⟨b, hb⟩ : ∃ b : Nat, (rs[1]'h1s).toNat = b := ⟨_, rfl⟩
        have f6 : 128 ≤ b := hb ▸ f5 h1s
        have hx : ∀ h : 1 < rs.size, (rs[1]'h).toNat = b := fun h => hb
        have hlt : decide (Lib.indexByte [] (UInt8.ofNat b) < 0) = true := rfl
        have hne : ((9 : Int) != (b : Int)) = true := bne_iff_ne.2 (by omega)
        have hby : ∀ h : 1 < (⟨#[32, 9]⟩ : ByteArray).size, (⟨#[32, 9]⟩ : ByteArray)[1]'h = 9 := fun _ => rfl
        go_loopg [9, 10, 11, 12] 0 (fun g v9 v10 v11 v12 wx => v9 = .int .i64 1 ∧ wx = w)
        case atStart => exact ⟨rfl, rfl⟩
        case round =>
          obtain ⟨rfl, rfl⟩ := hrel
          go_wp2
          go_step3
          go_wp2
          go_quiet (fail)
          go_wp2
          go_region_with (go_at_call 64; refine (Tryd.strings_IndexByte _ _ _).mono ?_; rintro e w' ⟨rfl, hw⟩; rw [hw])
          all_goals
            go_wp2
            rw [Exit.noGoto_ret]
            simp only [Exit.inBlock, Exit.then]
            rw [Exit.noGoto_ret]
            go_ret
            exact ⟨rfl, pw_below_drewN (Below.refl _ _) _⟩
      · have hge : decide ((rs.size : Int) - 1 < 2) = false := decide_eq_false (by omega)
        go_wp2_with (go_at_call 65; refine (Tryd.utf8_ValidRune _ _).mono ?_; rintro e w' ⟨rfl, hw⟩; rw [hw, hv])
        go_step3
        go_wp2
        go_loopg [9, 10, 11, 12] 0 (fun g v9 v10 v11 v12 wx => v9 = .int .i64 ((rs.size : Int) - 1) ∧ wx = w)
        case atStart => exact ⟨rfl, rfl⟩
        case round =>
          obtain ⟨rfl, rfl⟩ := hrel
          go_wp2
          rw [Exit.noGoto_ret]
          go_ret
          exact ⟨rfl, Below.refl _ _⟩
end Go.Proofs.YtaihipdebmcmhaaDoor.Splits
