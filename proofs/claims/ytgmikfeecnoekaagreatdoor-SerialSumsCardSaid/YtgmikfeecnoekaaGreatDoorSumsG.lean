/- The law's function, case by case: what the machine answers. -/
import Derived.Test.YtgmikfeecnoekaaGreatDoorSumsF
namespace Go.Proofs.YtgmikfeecnoekaaGreatDoor.serialSums
open Go.RowKit Go.Proofs.YtgmikfeecnoekaaGreatDoorW.PrintWords Go.Proofs.YtgmikfeecnoekaaGreatDoorW.PrintLast
set_option linter.unusedVariables false
set_option linter.unusedSimpArgs false
set_option maxHeartbeats 8000000 in
set_option maxRecDepth 100000 in
theorem long_ (a0 : ByteArray) (a1 a2 : Int) (w : World) (hk : Calls Tryz.prog 8 #[] w fun e w' => e = .returned (.bool true) ∧ Below w.heap.size w w')
    (c1 : decide ((a0.size : Int) > 2000) = true) :
    Calls Tryz.prog 4 #[.string a0, .int .i64 a1, .int .u8 a2] w fun e w' => e = .returned (.bool true) ∧ Below w.heap.size w w' := by
  go_enter Tryz.func4, Tryz.ntmps4
  go_wp2_with (fail)
  refine hk.mono ?_
  rintro e w1 ⟨rfl, hb⟩
  go_wp2_with (fail)
  go_ret
  exact ⟨by first | rfl | (simp; done) | (simp [*]; done), hb⟩
set_option maxHeartbeats 8000000 in
set_option maxRecDepth 100000 in
theorem neg_ (k : Nat) (a0 : ByteArray) (a1 a2 : Int) (w : World) (hk : Calls Tryz.prog 8 #[] w fun e w' => e = .returned (.bool true) ∧ Below w.heap.size w w')
    (c1 : decide ((a0.size : Int) > 2000) = false) (c2 : decide (a1 < 0) = true)
    (r1 r2 : Int) (h1 : serial_Sum.f k (a0 ++ ⟨#[97]⟩) = some r1) (h2 : serial_Sum.f k a0 = some r2) (h3 : r1 = ((31 * r2) % 4294967296 + 97) % 4294967296) :
    Calls Tryz.prog 4 #[.string a0, .int .i64 a1, .int .u8 a2] w fun e w' => e = .returned (.bool true) ∧ Below w.heap.size w w' := by
  have hs : a0.size ≤ 2000 := by have := of_decide_eq_false c1; omega
  have h97 : (⟨#[97]⟩ : ByteArray).size = 1 := rfl
  go_enter Tryz.func4, Tryz.ntmps4
  go_wp2_with (fail)
  refine hk.mono ?_
  rintro e w1 ⟨rfl, hb⟩
  go_wp2_with (fail)
  refine (serial_Sum.calls k _ r1 _ h1).mono ?_
  rintro e w2 ⟨rfl, ⟨nd, rfl⟩⟩
  go_wp2_with (fail)
  refine (serial_Sum.calls k _ r2 _ h2).mono ?_
  rintro e w3 ⟨rfl, ⟨nd2, rfl⟩⟩
  go_wp2_with (fail)
  go_ret
  subst h3
  exact ⟨by first | rfl | (simp; done) | (simp [*]; done), by repeat (first | (with_reducible first | exact hb | apply below_alloc | apply pw_below_drewN | apply below_drew1) | exact hb)⟩
set_option maxHeartbeats 8000000 in
set_option maxRecDepth 100000 in
theorem over_ (k : Nat) (a0 : ByteArray) (a1 a2 : Int) (w : World) (hk : Calls Tryz.prog 8 #[] w fun e w' => e = .returned (.bool true) ∧ Below w.heap.size w w')
    (c1 : decide ((a0.size : Int) > 2000) = false) (c2 : decide (a1 < 0) = false) (c3 : decide (a1 ≥ (a0.size : Int)) = true)
    (r1 r2 : Int) (h1 : serial_Sum.f k (a0 ++ ⟨#[97]⟩) = some r1) (h2 : serial_Sum.f k a0 = some r2) (h3 : r1 = ((31 * r2) % 4294967296 + 97) % 4294967296) :
    Calls Tryz.prog 4 #[.string a0, .int .i64 a1, .int .u8 a2] w fun e w' => e = .returned (.bool true) ∧ Below w.heap.size w w' := by
  have hs : a0.size ≤ 2000 := by have := of_decide_eq_false c1; omega
  have h97 : (⟨#[97]⟩ : ByteArray).size = 1 := rfl
  go_enter Tryz.func4, Tryz.ntmps4
  go_wp2_with (fail)
  refine hk.mono ?_
  rintro e w1 ⟨rfl, hb⟩
  go_wp2_with (fail)
  refine (serial_Sum.calls k _ r1 _ h1).mono ?_
  rintro e w2 ⟨rfl, ⟨nd, rfl⟩⟩
  go_wp2_with (fail)
  refine (serial_Sum.calls k _ r2 _ h2).mono ?_
  rintro e w3 ⟨rfl, ⟨nd2, rfl⟩⟩
  go_wp2_with (fail)
  go_ret
  subst h3
  exact ⟨by first | rfl | (simp; done) | (simp [*]; done), by repeat (first | (with_reducible first | exact hb | apply below_alloc | apply pw_below_drewN | apply below_drew1) | exact hb)⟩
set_option maxHeartbeats 8000000 in
set_option maxRecDepth 100000 in
theorem zero_ (k : Nat) (a0 : ByteArray) (a1 a2 : Int) (w : World) (hk : Calls Tryz.prog 8 #[] w fun e w' => e = .returned (.bool true) ∧ Below w.heap.size w w')
    (c1 : decide ((a0.size : Int) > 2000) = false) (c2 : decide (a1 < 0) = false) (c3 : decide (a1 ≥ (a0.size : Int)) = false) (c4 : (a2 == 0) = true)
    (r1 r2 : Int) (h1 : serial_Sum.f k (a0 ++ ⟨#[97]⟩) = some r1) (h2 : serial_Sum.f k a0 = some r2) (h3 : r1 = ((31 * r2) % 4294967296 + 97) % 4294967296) :
    Calls Tryz.prog 4 #[.string a0, .int .i64 a1, .int .u8 a2] w fun e w' => e = .returned (.bool true) ∧ Below w.heap.size w w' := by
  have hs : a0.size ≤ 2000 := by have := of_decide_eq_false c1; omega
  have h97 : (⟨#[97]⟩ : ByteArray).size = 1 := rfl
  go_enter Tryz.func4, Tryz.ntmps4
  go_wp2_with (fail)
  refine hk.mono ?_
  rintro e w1 ⟨rfl, hb⟩
  go_wp2_with (fail)
  refine (serial_Sum.calls k _ r1 _ h1).mono ?_
  rintro e w2 ⟨rfl, ⟨nd, rfl⟩⟩
  go_wp2_with (fail)
  refine (serial_Sum.calls k _ r2 _ h2).mono ?_
  rintro e w3 ⟨rfl, ⟨nd2, rfl⟩⟩
  go_wp2_with (fail)
  go_ret
  subst h3
  exact ⟨by first | rfl | (simp; done) | (simp [*]; done), by repeat (first | (with_reducible first | exact hb | apply below_alloc | apply pw_below_drewN | apply below_drew1) | exact hb)⟩
theorem getD_data (s : ByteArray) (i : Nat) (h : i < s.size) : ((s.data.toList.getD i 0).toNat : Int) = (bytesOf s).getD i 0 := by
  have h' : i < s.data.toList.length := by rw [data_length]; exact h
  simp [bytesOf, List.getD_eq_getElem?_getD, List.getElem?_eq_getElem h']
theorem getD_bt (s : ByteArray) (i : Nat) (h : i < s.size) : (bytesOf s).getD i 0 = bt s i := by
  rw [← rd_bytesOf]; rfl
set_option maxHeartbeats 400000 in
set_option maxRecDepth 100000 in
theorem turn_ (k : Nat) (a0 : ByteArray) (a1 a2 : Int) (w : World) (hk : Calls Tryz.prog 8 #[] w fun e w' => e = .returned (.bool true) ∧ Below w.heap.size w w')
    (c1 : decide ((a0.size : Int) > 2000) = false) (c2 : decide (a1 < 0) = false) (c3 : decide (a1 ≥ (a0.size : Int)) = false) (c4 : (a2 == 0) = false)
    (y : Int) (hy : y = bits BinOp.xor IntKind.u8 (bt a0 a1) a2) (r1 r2 : Int) (h1 : serial_Sum.f k (strOfNums ((bytesOf a0).set a1.toNat y)) = some r1) (h2 : serial_Sum.f k a0 = some r2) (h3 : (r1 != r2) = true) :
    Calls Tryz.prog 4 #[.string a0, .int .i64 a1, .int .u8 a2] w fun e w' => e = .returned (.bool true) ∧ Below w.heap.size w w' := by
  subst hy
  have p5 : (0 ≤ a1) = True := eq_true (by have := of_decide_eq_false c2; omega)
  have q5 : (a1 < (a0.size : Int)) = True := eq_true (by have := of_decide_eq_false c3; omega)
  have kb := fun W => print_bytes (P := Tryz.prog) 9 32 5 Tryz.underlying9 Tryz.underlying32 Tryz.underlying5 a0 W
  go_enter Tryz.func4, Tryz.ntmps4
  go_wp2_with (fail)
  refine hk.mono ?_
  rintro e w1 ⟨rfl, hb⟩
  have hlt : a1.toNat < a0.size := by have := of_eq_true p5; have := of_eq_true q5; omega
  have hc : (Lib.bytesWorld w1 5 a0).cell? ⟨w1.heap.size, a1.toNat, none⟩ = some (.int .u8 (bt a0 a1)) := by
    rw [Lib.bytesWorld_cell w1 5 a0 _ hlt, getD_data a0 _ hlt, getD_bt a0 _ hlt, Int.toNat_of_nonneg (of_eq_true p5)]
  have hz : (Lib.bytesWorld w1 5 a0).frozen? ⟨w1.heap.size, a1.toNat, none⟩ = false := by
    have hsz : a0.size ≤ (Lib.bytesCells w1 5 a0).size := by simp [Lib.bytesCells]
    unfold World.frozen?
    simp only [Lib.bytesWorld_at_new]
    simp
    omega
  have hback : (convert 32 9 (.slice (some ⟨w1.heap.size, 0, none⟩) a0.size (grownCap w1 a0.size 0 5))).run Tryz.prog ((Lib.bytesWorld w1 5 a0).setCell ⟨w1.heap.size, a1.toNat, none⟩ (.int .u8 (bits BinOp.xor IntKind.u8 (bt a0 a1) a2))) =
      .ok (.string (strOfNums ((bytesOf a0).set a1.toNat (bits BinOp.xor IntKind.u8 (bt a0 a1) a2)))) ((Lib.bytesWorld w1 5 a0).setCell ⟨w1.heap.size, a1.toNat, none⟩ (.int .u8 (bits BinOp.xor IntKind.u8 (bt a0 a1) a2))) := by
    refine run_convert_bytes_arg _ 32 5 Tryz.underlying32 Tryz.underlying5 w1.heap.size 0 a0.size _ _ (by rw [List.length_set, bytesOf_length]) (fun i hi => ?_) 9 Tryz.underlying9
    rw [Nat.zero_add]
    by_cases e : i = a1.toNat
    · subst e
      rw [World.cell?_setCell_same _ _ _ hc, List.getD_eq_getElem?_getD, List.getElem?_set_self (by rw [bytesOf_length]; exact hi), Option.getD_some]
    · rw [World.cell?_setCell_other _ _ _ _ (by intro h; injection h with _ h _; omega), Lib.bytesWorld_cell w1 5 a0 _ hi, getD_data a0 _ hi, List.getD_eq_getElem?_getD, List.getD_eq_getElem?_getD, List.getElem?_set_ne (by omega)]
  have hb2 : Below w.heap.size w ((Lib.bytesWorld w1 5 a0).setCell ⟨w1.heap.size, a1.toNat, none⟩ (.int .u8 (bits BinOp.xor IntKind.u8 (bt a0 a1) a2))) :=
    (bytes_below hb hb.size 5 a0).setCell (p := ⟨w1.heap.size, a1.toNat, none⟩) hb.size _
  go_wp2_with (fail)
  refine (serial_Sum.calls k _ r1 _ h1).mono ?_
  rintro e w2 ⟨rfl, ⟨nd, rfl⟩⟩
  go_wp2_with (fail)
  refine (serial_Sum.calls k _ r2 _ h2).mono ?_
  rintro e w3 ⟨rfl, ⟨nd2, rfl⟩⟩
  go_wp2_with (fail)
  go_ret
  exact ⟨by first | rfl | (simp; done) | (simp [*]; done), by repeat (first | (with_reducible first | exact hb2 | apply below_alloc | apply pw_below_drewN | apply below_drew1) | exact hb2)⟩
end Go.Proofs.YtgmikfeecnoekaaGreatDoor.serialSums
