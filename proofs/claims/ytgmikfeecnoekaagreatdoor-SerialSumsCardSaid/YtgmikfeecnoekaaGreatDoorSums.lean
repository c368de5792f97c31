/- The statement 'SerialSums' holds of the given program: whatever the input, the law's function returns true. The package-level variables that its row lists read as the program's text lays them. -/
import Derived.Test.YtgmikfeecnoekaaGreatDoorRows
import Derived.Test.YtgmikfeecnoekaaGreatDoorTie
import Derived.Test.YtgmikfeecnoekaaGreatDoorCards
import Derived.LaidMore
import Derived.Lay
import Derived.SevenTiedAt
import Derived.Stop.Joined
import Derived.WalkKit
import Derived.ProofKit
import Derived.OpenShut
import Derived.ShutString
import Derived.Test.YtgmikfeecnoekaaGreatDoorEvZ
import Derived.Test.YtgmikfeecnoekaaGreatDoorSumsK
import Derived.Test.YtgmikfeecnoekaaGreatDoorSumsF
import Derived.Test.YtgmikfeecnoekaaGreatDoorSumsG
import Derived.Test.YtgmikfeecnoekaaGreatDoorSumsP
namespace Go.Proofs.YtgmikfeecnoekaaGreatDoor.serialSums
open Go.Ev Go.Proofs.YtgmikfeecnoekaaGreatDoorW.PrintWords Go.Proofs.YtgmikfeecnoekaaGreatDoorW.PrintLast
open Go.ChangeShapes Go.WideShapes Go.ChangeAt Go.RowKit
open Go.ChangeMaps (open_string shut_string)
set_option linter.unusedVariables false      -- a walk need not use every 'w<i>' (that an integer argument fits its kind)

theorem own : ownKnob Tryz.prog.godebug = none := by kernel_rfl

set_option maxHeartbeats 2000000 in
theorem walk (a0 : ByteArray) (a1 : Int) (a2 : Int) (w0 : a0.size ≤ maxLen) (w1 : (Lit.int .i64 a1).wf = true) (w2 : (Lit.int .u8 a2).wf = true) (w : World) (hs : w.ShapedOpen Tryz.prog) (hL : laidMetH Tryz.prog Rows.serialSumsRow.laid w) :
    Calls Tryz.prog 4 #[.string a0, .int .i64 a1, .int .u8 a2] w fun e w' => e = .returned (.bool true) ∧ Below w.heap.size w w' := by
  have hk := known_calls w hs hL Tryz.checked.mixed
  have hx : 0 ≤ a2 ∧ a2 < 256 := by
    have := w2
    simp [Lit.wf, IntKind.min, IntKind.max, IntKind.signed, IntKind.bits] at this
    omega
  by_cases c1 : (a0.size : Int) > 2000
  · exact long_ a0 a1 a2 w hk (decide_eq_true c1)
  have d1 : decide ((a0.size : Int) > 2000) = false := decide_eq_false c1
  have hsz : (a0 ++ ⟨#[97]⟩).size = a0.size + 1 := by
    have h := congrArg List.length (bytesOf_push a0)
    rw [bytesOf_length, List.length_append, bytesOf_length] at h
    exact h
  have f2 := f_fold a0 (by omega) (a0.size + 10) (by omega)
  have f1 := f_fold (a0 ++ ⟨#[97]⟩) (by omega) (a0.size + 10) (by omega)
  have h3 : (bytesOf (a0 ++ ⟨#[97]⟩)).foldl step 1 = ((31 * ((bytesOf a0).foldl step 1)) % 4294967296 + 97) % 4294967296 := by
    rw [bytesOf_push, List.foldl_append]
    rfl
  by_cases c2 : a1 < 0
  · exact neg_ _ a0 a1 a2 w hk d1 (decide_eq_true c2) _ _ f1 f2 h3
  by_cases c3 : a1 ≥ (a0.size : Int)
  · exact over_ _ a0 a1 a2 w hk d1 (decide_eq_false c2) (decide_eq_true c3) _ _ f1 f2 h3
  by_cases c4 : a2 = 0
  · exact zero_ _ a0 a1 a2 w hk d1 (decide_eq_false c2) (decide_eq_false c3) (by rw [c4]; rfl) _ _ f1 f2 h3
  have hlt : a1.toNat < (bytesOf a0).length := by rw [bytesOf_length]; omega
  have hb : (bytesOf a0)[a1.toNat] = bt a0 a1 := by
    have h := getD_bt a0 a1.toNat (by rw [bytesOf_length] at hlt; exact hlt)
    rw [List.getD_eq_getElem?_getD, List.getElem?_eq_getElem hlt, Option.getD_some, Int.toNat_of_nonneg (by omega)] at h
    exact h
  have hbr := bytesOf_range a0 _ (List.getElem_mem hlt)
  rw [hb] at hbr
  obtain ⟨x1, x2, x3⟩ := xor_ne hbr hx c4
  have hr : ∀ z, z ∈ (bytesOf a0).set a1.toNat (bits BinOp.xor IntKind.u8 (bt a0 a1) a2) → 0 ≤ z ∧ z < 256 := by
    intro z hz
    rcases List.mem_or_eq_of_mem_set hz with h | h
    · exact bytesOf_range a0 z h
    · rw [h]; exact ⟨x2, x3⟩
  have hsz2 : (strOfNums ((bytesOf a0).set a1.toNat (bits BinOp.xor IntKind.u8 (bt a0 a1) a2))).size = a0.size := by rw [strOfNums_size, List.length_set, bytesOf_length]
  have f3 := f_fold (strOfNums ((bytesOf a0).set a1.toNat (bits BinOp.xor IntKind.u8 (bt a0 a1) a2))) (by omega) (a0.size + 10) (by omega)
  rw [bytesOf_strOfNums _ hr] at f3
  have hne := fold_set (bytesOf a0) a1.toNat (bits BinOp.xor IntKind.u8 (bt a0 a1) a2) hlt (bytesOf_range a0) ⟨x2, x3⟩ (by rw [hb]; exact Ne.symm x1) 1
  exact turn_ _ a0 a1 a2 w hk d1 (decide_eq_false c2) (decide_eq_false c3) (by simpa using c4) _ rfl _ _ f3 f2 (by simpa using hne)

/-! ### THE ROW's STEP: WRITTEN OUT: LEAVE IT -/
set_option maxRecDepth 100000 in
theorem lifted (os : Os) (started : os.Started) (H : Type) (enc : TypeId × Value → H) :
    ReturnsInHanded {} Tryz.checked os 4 .any (fun w args => (Rows.serialSumsSpec.pre enc Tryz.prog Tryz.f4 Rows.serialSumsRow.domain false w args ∧ laidMetH Tryz.prog Rows.serialSumsRow.laid w) ∧ sizedMet enc Tryz.prog Tryz.f4 (OpenSpec.ofChange Rows.serialSumsSpec) false w args) (Rows.serialSumsSpec.post enc Tryz.prog Tryz.f4 false true false false) := by
  refine of_shaped_and (C := Tryz.checked) (X := fun w _ => laidMetH Tryz.prog Rows.serialSumsRow.laid w) (fun _ _ _ hh h => h.of_heap hh) own started (by kernel_rfl) Tryz.func4
    (ChangeSpec.witness_shaped (enc := enc) (C := Tryz.checked) (os := os) (X := fun w _ => laidMetH Tryz.prog Rows.serialSumsRow.laid w) false (World.laidAll Tryz.prog os Rows.serialSumsRow.laid) #[.string ByteArray.empty, .int .i64 0, .int .u8 0] 8 (World.laidAll_os _ _ _)
      (World.shaped_of_ZipB (by kernel_rfl) (by kernel_rfl)) (by kernel_rfl) (by kernel_rfl) (by kernel_rfl)
      (by rw [MakeChecks.laidMetH_plain _ _ _ (by kernel_rfl)]; exact laidMet_laidAll _ (by kernel_rfl) (by kernel_rfl))) ?_
  intro W base args ds gs before hshape hval0 hW hL
  have hval : ∀ (j : Nat) t v, Tryz.f4.params[j]? = some t → args[j]? = some v → Value.okWide Tryz.prog W .any base t v := hval0
  have hW' := hW
  obtain ⟨p, q, hA0, hV, rfl, hfz, hnd⟩ := hW
  have hA : DataW.TrodAll enc Tryz.prog W 0 (fun _ => true) true Tryz.f4.params.toList args.toList ds p := hA0
  rw [Tryz.params4] at hA hval
  obtain ⟨v0, vs0, d0, ds0, p0, q0, hargs, rfl, rfl, h0, r0⟩ := trodAll_cons hA
  obtain ⟨v1, vs1, d1, ds1, p1, q1, rfl, rfl, rfl, h1, r1⟩ := trodAll_cons r0
  obtain ⟨v2, vs2, d2, ds2, p2, q2, rfl, rfl, rfl, h2, r2⟩ := trodAll_cons r1
  obtain ⟨rfl, rfl, rfl⟩ := trodAll_nil r2
  obtain rfl : args = #[v0, v1, v2] := by cases args; simp_all
  obtain ⟨rfl, rfl⟩ := trodVars_none hV
  obtain ⟨a0, rfl, rfl, rfl, w0⟩ := open_string Tryz.underlying9 (hval 0 9 v0 rfl rfl) h0
  obtain ⟨a1, rfl, rfl, rfl, w1⟩ := open_int Tryz.underlying3 (hval 1 3 v1 rfl rfl) h1
  obtain ⟨a2, rfl, rfl, rfl, w2⟩ := open_int Tryz.underlying5 (hval 2 5 v2 rfl rfl) h2
  clear hA0 hval0
  simp only [List.append_nil] at hW'
  refine (walk a0 a1 a2 w0 w1 w2 W hshape hL).mono fun e W' ⟨he, hg⟩ => ?_
  subst he
  exact ⟨_, rfl, _, _, _, [], _, [], hW', trodAll_mk1 (shut_bool Tryz.underlying4 _), (trodAll_cons_mk (shut_string Tryz.underlying9 w0) (trodAll_cons_mk (shut_int Tryz.underlying3 w1) (trodAll_cons_mk (shut_int Tryz.underlying5 w2) trodAll_mk0))), rfl, hg.frame _, fun h => by cases h⟩

theorem over : Rows.serialSumsRow.holds Tryz.pinned (OpenSpec.ofChange Rows.serialSumsSpec) :=
  OpenClaim.holds_of_wide 4 Tryz.f4 rfl rfl rfl rfl rfl rfl rfl ⟨rfl, rfl, rfl, rfl, rfl⟩ rfl rfl rfl rfl rfl (by kernel_rfl) Tryz.func4 (by kernel_rfl)
    (of_decide_eq_true (by kernel_rfl)) (by unfold Func.isWrapper; first | (rw [if_pos (by decide +kernel)]; kernel_rfl) | (rw [if_neg (by decide +kernel)]; exact ⟨rfl, rfl⟩))
    (fun os started H enc _ => lifted os started H enc)

theorem proved : Rows.SerialSumsCardSaid :=
  Claim7.holds_tied_plain_at .later [] [.data, .data, .data, .data, .sentinel, .sentinel, .pinned] true (true, "3ac87f84cb005ce19074223ea3b264cbfb39058aaf09c78cf162c58d7394bd36") true over (fun _ h => by cases h) (by kernel_rfl) (fun _ h => by cases h) serialSums_row_tie rfl ⟨rfl, rfl⟩ (by kernel_rfl) rfl
    (fun f fn hf hfn => by
      obtain rfl : f = 4 := Option.some.inj ((show Tryz.prog.funcNamed "reveille/reveillelaw22.SerialSums" = some 4 by kernel_rfl).symm.trans hf) |>.symm
      obtain rfl : fn = Tryz.f4 := (Option.some.inj (Tryz.func4.symm.trans hfn)).symm
      exact ⟨by kernel_rfl, fun j t ht => by
        rw [Tryz.params4] at ht
        have hm : t ∈ [3, 5, 9] := by
          have := Array.mem_of_getElem? ht
          simp at this
          first | (subst this; simp; done) | (rcases this with rfl | rfl <;> simp; done) | (rcases this with rfl | rfl | rfl <;> simp; done) | (rcases this with rfl | rfl | rfl | rfl <;> simp; done)
        have hall : ([3, 5, 9].all fun u => !Tryz.prog.wantsStandIn u) = true := by kernel_rfl
        exact (show Tryz.prog.wantsStandIn t = false by simpa using List.all_eq_true.1 hall t hm)⟩)
    (by kernel_rfl)
#print axioms proved
end Go.Proofs.YtgmikfeecnoekaaGreatDoor.serialSums
