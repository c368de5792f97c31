/- The statement 'SettingNeeds' holds of the given program: whatever the input, the law's function returns true. The package-level variables that its row lists read as the program's text lays them. -/
import Derived.Test.YtpbaeipofjdapaaGreatDoorRRows
import Derived.Test.YtpbaeipofjdapaaGreatDoorRTie
import Derived.Test.YtpbaeipofjdapaaGreatDoorRCards
import Derived.LaidMore
import Derived.Lay
import Derived.SevenTiedAt
import Derived.Stop.Joined
import Derived.WalkKit
import Derived.ProofKit
import Derived.OpenShut
import Derived.ShutString
import Derived.Test.YtpbaeipofjdapaaGreatDoorREvZ
import Derived.Test.YtpbaeipofjdapaaGreatDoorRNeedsK0
import Derived.Test.YtpbaeipofjdapaaGreatDoorRNeedsK1
import Derived.Test.YtpbaeipofjdapaaGreatDoorRNeedsK2
import Derived.Test.YtpbaeipofjdapaaGreatDoorRNeedsK3
import Derived.Test.YtpbaeipofjdapaaGreatDoorRNeedsK4
import Derived.Test.YtpbaeipofjdapaaGreatDoorRNeedsK5
import Derived.Test.YtpbaeipofjdapaaGreatDoorRNeedsK6
import Derived.Test.YtpbaeipofjdapaaGreatDoorRNeedsK7
import Derived.Test.YtpbaeipofjdapaaGreatDoorRNeedsK8
import Derived.Test.YtpbaeipofjdapaaGreatDoorRNeedsK9
import Derived.Test.YtpbaeipofjdapaaGreatDoorRNeedsK10
import Derived.Test.YtpbaeipofjdapaaGreatDoorRNeedsK11
import Derived.Test.YtpbaeipofjdapaaGreatDoorRNeedsK12
import Derived.Test.YtpbaeipofjdapaaGreatDoorRNeedsK13
import Derived.Test.YtpbaeipofjdapaaGreatDoorRNeedsK14
import Derived.Test.YtpbaeipofjdapaaGreatDoorRNeedsK15
import Derived.Test.YtpbaeipofjdapaaGreatDoorRNeedsK16
import Derived.Test.YtpbaeipofjdapaaGreatDoorRNeedsK17
namespace Go.Proofs.YtpbaeipofjdapaaGreatDoorR.settingNeeds
open Go.Ev
open Go.ChangeShapes Go.WideShapes Go.ChangeAt Go.RowKit
open Go.ChangeMaps (open_string shut_string)
set_option linter.unusedVariables false      -- a walk need not use every 'w<i>' (that an integer argument fits its kind)

theorem own : ownKnob Tryz.prog.godebug = none := by kernel_rfl

set_option maxHeartbeats 20000000 in
set_option maxRecDepth 100000 in
theorem walk (a0 : Int) (a1 : Bool) (w0 : (Lit.int .u8 a0).wf = true) (w : World) (hs : w.ShapedOpen Tryz.prog) (hL : laidMetH Tryz.prog Rows.settingNeedsRow.laid w) :
    Calls Tryz.prog 5 #[.int .u8 a0, .bool a1] w fun e w' => e = .returned (.bool true) ∧ Below w.heap.size w w' := by
  have hmix : Tryz.prog.follows .mixedOrders = true := Tryz.checked.mixed
  obtain ⟨n0, rfl⟩ : ∃ n : Nat, a0 = n := ⟨a0.toNat, by
    have := w0
    simp [Lit.wf, IntKind.min, IntKind.max, IntKind.signed, IntKind.bits] at this
    omega⟩
  have hpl : (Rows.settingNeedsRow.laid.all fun x => x.2.handleName?.isNone) = true := by kernel_rfl
  have t6 : TwoAt .i64 w (6, 0, 6) := laid_two hL hpl (List.mem_of_getElem? (i := 6) rfl) (by kernel_rfl) (by kernel_rfl) Tryz.underlying153 rfl rfl rfl rfl (by kernel_rfl) (by kernel_rfl) (by kernel_rfl) (by kernel_rfl)
  have t0 : TwoAt .i64 w (0, 1970, 2200) := laid_two hL hpl (List.mem_of_getElem? (i := 7) rfl) (by kernel_rfl) (by kernel_rfl) Tryz.underlying153 rfl rfl rfl rfl (by kernel_rfl) (by kernel_rfl) (by kernel_rfl) (by kernel_rfl)
  have t1 : TwoAt .i64 w (1, 1, 12) := laid_two hL hpl (List.mem_of_getElem? (i := 8) rfl) (by kernel_rfl) (by kernel_rfl) Tryz.underlying153 rfl rfl rfl rfl (by kernel_rfl) (by kernel_rfl) (by kernel_rfl) (by kernel_rfl)
  have t2 : TwoAt .i64 w (2, 1, 31) := laid_two hL hpl (List.mem_of_getElem? (i := 9) rfl) (by kernel_rfl) (by kernel_rfl) Tryz.underlying153 rfl rfl rfl rfl (by kernel_rfl) (by kernel_rfl) (by kernel_rfl) (by kernel_rfl)
  have t3 : TwoAt .i64 w (3, 0, 23) := laid_two hL hpl (List.mem_of_getElem? (i := 10) rfl) (by kernel_rfl) (by kernel_rfl) Tryz.underlying153 rfl rfl rfl rfl (by kernel_rfl) (by kernel_rfl) (by kernel_rfl) (by kernel_rfl)
  have t4 : TwoAt .i64 w (4, 0, 59) := laid_two hL hpl (List.mem_of_getElem? (i := 11) rfl) (by kernel_rfl) (by kernel_rfl) Tryz.underlying153 rfl rfl rfl rfl (by kernel_rfl) (by kernel_rfl) (by kernel_rfl) (by kernel_rfl)
  have hgs : Tryz.prog.globals.size = 14 := by kernel_rfl
  obtain ⟨v, hv, hv1, hv2⟩ := int_global hs (g := 5) (t := 3) (u := 3) (k := .i64) (zero := #[.int .i64 0]) (by rw [hgs]; decide) (by kernel_rfl) rfl (by kernel_rfl) (by kernel_rfl) (by kernel_rfl)
  have hb1 : -9223372036854775808 ≤ v := hv1
  have hb2 : v ≤ 9223372036854775807 := hv2
  have htwo : ∀ x, x ∈ [((6, 0, 6) : Nat × Int × Int), ((0, 1970, 2200) : Nat × Int × Int), ((1, 1, 12) : Nat × Int × Int), ((2, 1, 31) : Nat × Int × Int), ((3, 0, 23) : Nat × Int × Int), ((4, 0, 59) : Nat × Int × Int)] → x.1 < Tryz.prog.globals.size ∧ TwoAt .i64 w x := by
    intro x hx
    rw [hgs]
    simp only [List.mem_cons, List.mem_nil_iff, or_false] at hx
    rcases hx with rfl | rfl | rfl | rfl | rfl | rfl
    · exact ⟨by decide, t6⟩
    · exact ⟨by decide, t0⟩
    · exact ⟨by decide, t1⟩
    · exact ⟨by decide, t2⟩
    · exact ⟨by decide, t3⟩
    · exact ⟨by decide, t4⟩
  have key : ∀ (lo hi : Int) (k0 : Nat) (b1 : Bool), n0 % 6 = k0 → a1 = b1 → lo ≤ v → v ≤ hi → isTrue (@runR ⟨[(lo, hi)], [], noSum⟩ Tryz.prog 100000 5 [.res .u8 6 k0, .bool b1] (twoRows .i64 [(6, 0, 6), (0, 1970, 2200), (1, 1, 12), (2, 1, 31), (3, 0, 23), (4, 0, 59)] ++ [(5, 1, [.sym .i64 0 [(0, 1)]])]) 0) = true →
      Calls Tryz.prog 5 #[.int .u8 (n0 : Int), .bool a1] w fun e w' => e = .returned (.bool true) ∧ Below w.heap.size w w' := by
    intro lo hi k0 b1 hk0 hk1 h1 h2 h
    obtain ⟨E, hE⟩ := envOf [(lo, hi)] [] noSum [v] (.cons ⟨h1, h2⟩ .nil) (by intro e he; simp at he)
    letI : Facts := ⟨[(lo, hi)], [], noSum⟩
    letI : Env := E
    refine glob_calls noSums hmix (shaped_size hs) ?_ (enter_of Tryz.func5 (by kernel_rfl) (by kernel_rfl)) (fun μ => .cons (.res .u8 hk0) (.cons (by rw [hk1]; exact .bool _) .nil)) h
    intro x hx
    rcases List.mem_append.1 hx with hx | hx
    · exact two_glob htwo x hx
    · simp only [List.mem_cons, List.mem_nil_iff, or_false] at hx
      subst hx
      refine ⟨by rw [hgs]; decide, rfl, by decide, fun i u hi => ?_⟩
      have hi1 : i < 1 := by simpa using (List.getElem?_eq_some_iff.1 hi).1
      obtain rfl : i = 0 := by omega
      simp at hi
      subst hi
      exact ⟨rfl, _, hv, fun μ => .sym .i64 (by rw [hE]; simp)⟩
  rcases (by omega : n0 % 6 = 0 ∨ n0 % 6 = 1 ∨ n0 % 6 = 2 ∨ n0 % 6 = 3 ∨ n0 % 6 = 4 ∨ n0 % 6 = 5) with h0 | h0 | h0 | h0 | h0 | h0
  · cases a1
    · rcases (by omega : (-9223372036854775808 ≤ v ∧ v ≤ 6) ∨ (7 ≤ v ∧ v ≤ 8) ∨ (9 ≤ v ∧ v ≤ 10) ∨ (11 ≤ v ∧ v ≤ 9223372036854775807)) with hr | hr | hr | hr
      · exact key _ _ _ _ h0 rfl hr.1 hr.2 k0_f_0
      · exact key _ _ _ _ h0 rfl hr.1 hr.2 k0_f_1
      · exact key _ _ _ _ h0 rfl hr.1 hr.2 k0_f_2
      · exact key _ _ _ _ h0 rfl hr.1 hr.2 k0_f_3
    · rcases (by omega : (-9223372036854775808 ≤ v ∧ v ≤ 6) ∨ (7 ≤ v ∧ v ≤ 8) ∨ (9 ≤ v ∧ v ≤ 10) ∨ (11 ≤ v ∧ v ≤ 9223372036854775807)) with hr | hr | hr | hr
      · exact key _ _ _ _ h0 rfl hr.1 hr.2 k0_t_0
      · exact key _ _ _ _ h0 rfl hr.1 hr.2 k0_t_1
      · exact key _ _ _ _ h0 rfl hr.1 hr.2 k0_t_2
      · exact key _ _ _ _ h0 rfl hr.1 hr.2 k0_t_3
  · cases a1
    · rcases (by omega : (-9223372036854775808 ≤ v ∧ v ≤ 6) ∨ (7 ≤ v ∧ v ≤ 8) ∨ (9 ≤ v ∧ v ≤ 10) ∨ (11 ≤ v ∧ v ≤ 9223372036854775807)) with hr | hr | hr | hr
      · exact key _ _ _ _ h0 rfl hr.1 hr.2 k1_f_0
      · exact key _ _ _ _ h0 rfl hr.1 hr.2 k1_f_1
      · exact key _ _ _ _ h0 rfl hr.1 hr.2 k1_f_2
      · exact key _ _ _ _ h0 rfl hr.1 hr.2 k1_f_3
    · rcases (by omega : (-9223372036854775808 ≤ v ∧ v ≤ 6) ∨ (7 ≤ v ∧ v ≤ 8) ∨ (9 ≤ v ∧ v ≤ 10) ∨ (11 ≤ v ∧ v ≤ 13) ∨ (14 ≤ v ∧ v ≤ 9223372036854775807)) with hr | hr | hr | hr | hr
      · exact key _ _ _ _ h0 rfl hr.1 hr.2 k1_t_0
      · exact key _ _ _ _ h0 rfl hr.1 hr.2 k1_t_1
      · exact key _ _ _ _ h0 rfl hr.1 hr.2 k1_t_2
      · exact key _ _ _ _ h0 rfl hr.1 hr.2 k1_t_3
      · exact key _ _ _ _ h0 rfl hr.1 hr.2 k1_t_4
  · cases a1
    · rcases (by omega : (-9223372036854775808 ≤ v ∧ v ≤ 6) ∨ (7 ≤ v ∧ v ≤ 8) ∨ (9 ≤ v ∧ v ≤ 10) ∨ (11 ≤ v ∧ v ≤ 9223372036854775807)) with hr | hr | hr | hr
      · exact key _ _ _ _ h0 rfl hr.1 hr.2 k2_f_0
      · exact key _ _ _ _ h0 rfl hr.1 hr.2 k2_f_1
      · exact key _ _ _ _ h0 rfl hr.1 hr.2 k2_f_2
      · exact key _ _ _ _ h0 rfl hr.1 hr.2 k2_f_3
    · rcases (by omega : (-9223372036854775808 ≤ v ∧ v ≤ 6) ∨ (7 ≤ v ∧ v ≤ 8) ∨ (9 ≤ v ∧ v ≤ 10) ∨ (11 ≤ v ∧ v ≤ 11) ∨ (12 ≤ v ∧ v ≤ 9223372036854775807)) with hr | hr | hr | hr | hr
      · exact key _ _ _ _ h0 rfl hr.1 hr.2 k2_t_0
      · exact key _ _ _ _ h0 rfl hr.1 hr.2 k2_t_1
      · exact key _ _ _ _ h0 rfl hr.1 hr.2 k2_t_2
      · exact key _ _ _ _ h0 rfl hr.1 hr.2 k2_t_3
      · exact key _ _ _ _ h0 rfl hr.1 hr.2 k2_t_4
  · cases a1
    · rcases (by omega : (-9223372036854775808 ≤ v ∧ v ≤ 6) ∨ (7 ≤ v ∧ v ≤ 8) ∨ (9 ≤ v ∧ v ≤ 10) ∨ (11 ≤ v ∧ v ≤ 9223372036854775807)) with hr | hr | hr | hr
      · exact key _ _ _ _ h0 rfl hr.1 hr.2 k3_f_0
      · exact key _ _ _ _ h0 rfl hr.1 hr.2 k3_f_1
      · exact key _ _ _ _ h0 rfl hr.1 hr.2 k3_f_2
      · exact key _ _ _ _ h0 rfl hr.1 hr.2 k3_f_3
    · rcases (by omega : (-9223372036854775808 ≤ v ∧ v ≤ 6) ∨ (7 ≤ v ∧ v ≤ 8) ∨ (9 ≤ v ∧ v ≤ 10) ∨ (11 ≤ v ∧ v ≤ 11) ∨ (12 ≤ v ∧ v ≤ 9223372036854775807)) with hr | hr | hr | hr | hr
      · exact key _ _ _ _ h0 rfl hr.1 hr.2 k3_t_0
      · exact key _ _ _ _ h0 rfl hr.1 hr.2 k3_t_1
      · exact key _ _ _ _ h0 rfl hr.1 hr.2 k3_t_2
      · exact key _ _ _ _ h0 rfl hr.1 hr.2 k3_t_3
      · exact key _ _ _ _ h0 rfl hr.1 hr.2 k3_t_4
  · cases a1
    · rcases (by omega : (-9223372036854775808 ≤ v ∧ v ≤ 6) ∨ (7 ≤ v ∧ v ≤ 8) ∨ (9 ≤ v ∧ v ≤ 10) ∨ (11 ≤ v ∧ v ≤ 9223372036854775807)) with hr | hr | hr | hr
      · exact key _ _ _ _ h0 rfl hr.1 hr.2 k4_f_0
      · exact key _ _ _ _ h0 rfl hr.1 hr.2 k4_f_1
      · exact key _ _ _ _ h0 rfl hr.1 hr.2 k4_f_2
      · exact key _ _ _ _ h0 rfl hr.1 hr.2 k4_f_3
    · rcases (by omega : (-9223372036854775808 ≤ v ∧ v ≤ 5) ∨ (6 ≤ v ∧ v ≤ 6) ∨ (7 ≤ v ∧ v ≤ 8) ∨ (9 ≤ v ∧ v ≤ 10) ∨ (11 ≤ v ∧ v ≤ 9223372036854775807)) with hr | hr | hr | hr | hr
      · exact key _ _ _ _ h0 rfl hr.1 hr.2 k4_t_0
      · exact key _ _ _ _ h0 rfl hr.1 hr.2 k4_t_1
      · exact key _ _ _ _ h0 rfl hr.1 hr.2 k4_t_2
      · exact key _ _ _ _ h0 rfl hr.1 hr.2 k4_t_3
      · exact key _ _ _ _ h0 rfl hr.1 hr.2 k4_t_4
  · cases a1
    · rcases (by omega : (-9223372036854775808 ≤ v ∧ v ≤ 6) ∨ (7 ≤ v ∧ v ≤ 8) ∨ (9 ≤ v ∧ v ≤ 10) ∨ (11 ≤ v ∧ v ≤ 9223372036854775807)) with hr | hr | hr | hr
      · exact key _ _ _ _ h0 rfl hr.1 hr.2 k5_f_0
      · exact key _ _ _ _ h0 rfl hr.1 hr.2 k5_f_1
      · exact key _ _ _ _ h0 rfl hr.1 hr.2 k5_f_2
      · exact key _ _ _ _ h0 rfl hr.1 hr.2 k5_f_3
    · rcases (by omega : (-9223372036854775808 ≤ v ∧ v ≤ 6) ∨ (7 ≤ v ∧ v ≤ 8) ∨ (9 ≤ v ∧ v ≤ 10) ∨ (11 ≤ v ∧ v ≤ 9223372036854775807)) with hr | hr | hr | hr
      · exact key _ _ _ _ h0 rfl hr.1 hr.2 k5_t_0
      · exact key _ _ _ _ h0 rfl hr.1 hr.2 k5_t_1
      · exact key _ _ _ _ h0 rfl hr.1 hr.2 k5_t_2
      · exact key _ _ _ _ h0 rfl hr.1 hr.2 k5_t_3

/-! ### THE ROW's STEP: WRITTEN OUT: LEAVE IT -/
set_option maxRecDepth 100000 in
theorem lifted (os : Os) (started : os.Started) (H : Type) (enc : TypeId × Value → H) :
    ReturnsInHanded {} Tryz.checked os 5 .any (fun w args => (Rows.settingNeedsSpec.pre enc Tryz.prog Tryz.f5 Rows.settingNeedsRow.domain false w args ∧ laidMetH Tryz.prog Rows.settingNeedsRow.laid w) ∧ sizedMet enc Tryz.prog Tryz.f5 (OpenSpec.ofChange Rows.settingNeedsSpec) false w args) (Rows.settingNeedsSpec.post enc Tryz.prog Tryz.f5 false true false false) := by
  refine of_shaped_and (C := Tryz.checked) (X := fun w _ => laidMetH Tryz.prog Rows.settingNeedsRow.laid w) (fun _ _ _ hh h => h.of_heap hh) own started (by kernel_rfl) Tryz.func5
    (ChangeSpec.witness_shaped (enc := enc) (C := Tryz.checked) (os := os) (X := fun w _ => laidMetH Tryz.prog Rows.settingNeedsRow.laid w) false (World.laidAll Tryz.prog os Rows.settingNeedsRow.laid) #[.int .u8 0, .bool false] 8 (World.laidAll_os _ _ _)
      (World.shaped_of_ZipB (by kernel_rfl) (by kernel_rfl)) (by kernel_rfl) (by kernel_rfl) (by kernel_rfl)
      (by rw [MakeChecks.laidMetH_plain _ _ _ (by kernel_rfl)]; exact laidMet_laidAll _ (by kernel_rfl) (by kernel_rfl))) ?_
  intro W base args ds gs before hshape hval0 hW hL
  have hval : ∀ (j : Nat) t v, Tryz.f5.params[j]? = some t → args[j]? = some v → Value.okWide Tryz.prog W .any base t v := hval0
  have hW' := hW
  obtain ⟨p, q, hA0, hV, rfl, hfz, hnd⟩ := hW
  have hA : DataW.TrodAll enc Tryz.prog W 0 (fun _ => true) true Tryz.f5.params.toList args.toList ds p := hA0
  rw [Tryz.params5] at hA hval
  obtain ⟨v0, vs0, d0, ds0, p0, q0, hargs, rfl, rfl, h0, r0⟩ := trodAll_cons hA
  obtain ⟨v1, vs1, d1, ds1, p1, q1, rfl, rfl, rfl, h1, r1⟩ := trodAll_cons r0
  obtain ⟨rfl, rfl, rfl⟩ := trodAll_nil r1
  obtain rfl : args = #[v0, v1] := by cases args; simp_all
  obtain ⟨rfl, rfl⟩ := trodVars_none hV
  obtain ⟨a0, rfl, rfl, rfl, w0⟩ := open_int Tryz.underlying5 (hval 0 5 v0 rfl rfl) h0
  obtain ⟨a1, rfl, rfl, rfl⟩ := open_bool Tryz.underlying4 (hval 1 4 v1 rfl rfl) h1
  clear hA0 hval0
  simp only [List.append_nil] at hW'
  refine (walk a0 a1 w0 W hshape hL).mono fun e W' ⟨he, hg⟩ => ?_
  subst he
  exact ⟨_, rfl, _, _, _, [], _, [], hW', trodAll_mk1 (shut_bool Tryz.underlying4 _), (trodAll_cons_mk (shut_int Tryz.underlying5 w0) (trodAll_cons_mk (shut_bool Tryz.underlying4 _) trodAll_mk0)), rfl, hg.frame _, fun h => by cases h⟩

theorem over : Rows.settingNeedsRow.holds Tryz.pinned (OpenSpec.ofChange Rows.settingNeedsSpec) :=
  OpenClaim.holds_of_wide 5 Tryz.f5 rfl rfl rfl rfl rfl rfl rfl ⟨rfl, rfl, rfl, rfl, rfl⟩ rfl rfl rfl rfl rfl (by kernel_rfl) Tryz.func5 (by kernel_rfl)
    (of_decide_eq_true (by kernel_rfl)) (by unfold Func.isWrapper; first | (rw [if_pos (by decide +kernel)]; kernel_rfl) | (rw [if_neg (by decide +kernel)]; exact ⟨rfl, rfl⟩))
    (fun os started H enc _ => lifted os started H enc)

theorem proved : Rows.SettingNeedsCardSaid :=
  Claim7.holds_tied_plain_at .later [] [.data, .data, .data, .data, .sentinel, .sentinel, .wider, .wider, .wider, .wider, .wider, .wider, .pinned] true (true, "104ffdf91ad53339d3410f4c8adab15d67116a138834f6ab51f410c470afc424") true over (fun _ h => by cases h) (by kernel_rfl) (fun _ h => by cases h) settingNeeds_row_tie rfl ⟨rfl, rfl⟩ (by kernel_rfl) rfl
    (fun f fn hf hfn => by
      obtain rfl : f = 5 := Option.some.inj ((show Tryz.prog.funcNamed "reveille/reveillelaw7.SettingNeeds" = some 5 by kernel_rfl).symm.trans hf) |>.symm
      obtain rfl : fn = Tryz.f5 := (Option.some.inj (Tryz.func5.symm.trans hfn)).symm
      exact ⟨by kernel_rfl, fun j t ht => by
        rw [Tryz.params5] at ht
        have hm : t ∈ [4, 5] := by
          have := Array.mem_of_getElem? ht
          simp at this
          first | (subst this; simp; done) | (rcases this with rfl | rfl <;> simp; done) | (rcases this with rfl | rfl | rfl <;> simp; done) | (rcases this with rfl | rfl | rfl | rfl <;> simp; done)
        have hall : ([4, 5].all fun u => !Tryz.prog.wantsStandIn u) = true := by kernel_rfl
        exact (show Tryz.prog.wantsStandIn t = false by simpa using List.all_eq_true.1 hall t hm)⟩)
    (by kernel_rfl)
#print axioms proved
end Go.Proofs.YtpbaeipofjdapaaGreatDoorR.settingNeeds
