/- The law LineReads, walked. -/
import Derived.Test.YtaihipdebmcmhaaDoorAllY
namespace Go.Proofs.YtaihipdebmcmhaaDoor.Lines
open Go.RowKit Go.Shelf Go.Proofs.YtaihipdebmcmhaaDoorW.PrintWords Go.Proofs.YtaihipdebmcmhaaDoorW.PrintLast
attribute [local go_sem] Oper.semAt_some
set_option linter.unusedVariables false
set_option maxRecDepth 100000 in
set_option maxHeartbeats 4000000 in
theorem reads_law (s : List UInt8) (stop : Int) (w : World) (hG : GW w) : Calls Tryd.prog 6 #[.string (ba s), .int .i64 stop] w fun e w' => e = .returned (.bool true) ∧ Below w.heap.size w w' := by
  have hb1 : Below w.heap.size w (w.alloc (.cells #[.int .i64 stop] 3)) := (Below.refl _ w).alloc (Nat.le_refl _) _
  have hS1 : Boxed (w.alloc (.cells #[.int .i64 stop] 3)) w.heap.size 3 (.int .i64 stop) := Boxed.new _ _ _
  have hG1 : GW (w.alloc (.cells #[.int .i64 stop] 3)) := hG.below hb1
  obtain ⟨W1, hW1⟩ : ∃ W1, w.alloc (.cells #[.int .i64 stop] 3) = W1 := ⟨_, rfl⟩
  rw [hW1] at hb1 hS1 hG1
  by_cases h5 : 5000 < s.length
  · have hsz : decide ((5000 : Int) < ((ba s).size : Int)) = true := decide_eq_true (by rw [ba_size]; omega)
    go_enter Tryd.func6, Tryd.ntmps6
    go_wp2_with (go_at_call 9; (try rw [hW1]); refine (reveillelaw5_known.calls true _ rfl hG1).mono ?_; rintro e w2 ⟨rfl, hb2⟩)
    go_ret
    exact ⟨rfl, hb1.trans (hb2.mono hb1.size)⟩
  · have hsz : decide ((5000 : Int) < ((ba s).size : Int)) = false := decide_eq_false (by rw [ba_size]; omega)
    have hn5 : s.length ≤ 5000 := by omega
    have hl1 := LF_len s
    obtain ⟨l, hl⟩ : ∃ l, (LF s).1 = l := ⟨_, rfl⟩
    obtain ⟨N, hN⟩ : ∃ N, (LF s).2.1 = N := ⟨_, rfl⟩
    obtain ⟨E, hE⟩ : ∃ E, (LF s).2.2 = E := ⟨_, rfl⟩
    have C11 := fun (X : World) (hX : GW X) => lines_own s X hX
    have C15 := fun (X : World) => ref_calls s X
    have C17 := fun (X : World) (hX : GW X) => all_calls s X hX
    simp only [hl, hN, hE] at C11 C15 C17
    rw [hl] at hl1
    clear hl hN hE
    go_enter Tryd.func6, Tryd.ntmps6
    go_wp2_with (first | (go_at_call 9; (try rw [hW1]); refine (reveillelaw5_known.calls true _ rfl hG1).mono ?_; rintro e w2 ⟨rfl, hb2⟩; have hS2 := under hS1 hb2 hS1.lt; have hG2 := hG1.below hb2; have hB2 := hb1.trans (hb2.mono hb1.size)) | (go_at_call 11; refine (C11 _ hG2).mono ?_; rintro e w3 ⟨v1, rfl, hrow1, hb3⟩; obtain ⟨A1, c1, rfl⟩ := own_slice hrow1; have hS3 := under hS2 hb3 hS2.lt; have hG3 := hG2.below hb3; have hB3 := hB2.trans (hb3.mono hB2.size)) | (go_at_call 15; refine (C15 _).mono ?_; rintro e w4 ⟨A2, c2, rfl, hR2, hb4⟩; have hS4 := under hS3 hb4 hS3.lt; have hG4 := hG3.below hb4; have hB4 := hB3.trans (hb4.mono hB3.size); have hrow4 := pw_own_below hrow1 hb4; have hM5 := Boxed.new w4 26 (.slice A2 l.length c2); have cM5 := hM5.cell))
    obtain ⟨A1', c1', he1, hc1, hC1⟩ := Kd.R_reads (own_R hrow4)
    obtain ⟨rfl, rfl⟩ : A1 = A1' ∧ c1 = c1' := by injection he1 with h1 h2 h3; exact ⟨h1, h3⟩
    obtain ⟨A2', c2', he2, hc2, hC2⟩ := Kd.R_reads hR2
    obtain ⟨rfl, rfl⟩ : A2 = A2' ∧ c2 = c2' := by injection he2 with h1 h2 h3; exact ⟨h1, h3⟩
    have hS5 := hS4.alloc (.cells #[.slice A2 l.length c2] 26)
    have b45 : Below w4.heap.size w4 (w4.alloc (.cells #[.slice A2 l.length c2] 26)) := (Below.refl _ _).alloc (Nat.le_refl _) _
    have hG5 := hG4.below b45
    have hB5 := hB4.trans (b45.mono hB4.size)
    refine (same_calls A1 c1 A2 c2 _ _ l _ rfl rfl (Kd.C_alloc hC1 _) hc1 (Kd.C_alloc hC2 _) hc2 (by omega)).mono ?_
    rintro e w6 ⟨rfl, hb6⟩
    have hS6 := under hS5 hb6 hS5.lt
    have hM6 := under hM5 hb6 hM5.lt
    have hG6 := hG5.below hb6
    have hB6 := hB5.trans (hb6.mono hB5.size)
    have b46 : Below w4.heap.size w4 w6 := b45.trans (hb6.mono b45.size)
    have b67 : Below w6.heap.size w6 (w6.alloc (.cells #[.slice none 0 0] 26)) := (Below.refl _ _).alloc (Nat.le_refl _) _
    have hS7 := hS6.alloc (.cells #[.slice none 0 0] 26)
    have hM7 := hM6.alloc (.cells #[.slice none 0 0] 26)
    have hA7 := Boxed.new w6 26 (.slice none 0 0)
    have hG7 := hG6.below b67
    have hB7 := hB6.trans (b67.mono hB6.size)
    have b47 := b46.trans (b67.mono b46.size)
    have hz7 : (w6.alloc (.cells #[.slice none 0 0] 26)).heap.size = w6.heap.size + 1 := by rw [World.size_alloc]
    have neS : w.heap.size ≠ w6.heap.size := Nat.ne_of_lt hS6.lt
    have neM : w4.heap.size ≠ w6.heap.size := Nat.ne_of_lt hM6.lt
    go_wp2_with (go_at_call 17; refine (C17 _ hG7).mono ?_; rintro e w8 ⟨B, vl, rfl, hBx, hrow8, hb8, hB8⟩)
    have hS8 := under hS7 hb8 hS7.lt
    have hM8 := under hM7 hb8 hM7.lt
    have hA8 := under hA7 hb8 hA7.lt
    have neB : B ≠ w6.heap.size := by omega
    refine (each_calls w6.heap.size w.heap.size w4.heap.size B w.heap.size _ stop A2 l.length c2 l vl w8 hA8 hS8 hM8 hBx hrow8 neS neM neB hB6.size hl1 (Nat.le_refl _)).mono ?_
    rintro e w9 ⟨⟨v, rfl⟩, ⟨v9, hv9, hrow9⟩, hk9, hb9⟩
    have hS9 := hk9.box hS8 hS8.lt neS
    have hM9 := hk9.box hM8 hM8.lt neM
    have b48 : Below w4.heap.size w4 w8 := b47.trans (hb8.mono b47.size)
    have hR9 : Kd.R k31 31 w9 w3.heap.size (fun _ => True) (.slice A2 l.length c2) l := Kd.R_step hR2 (fun k _ hk => (hk9 k (Nat.lt_of_lt_of_le hk b48.size) (fun e => by have := hM6.lt; omega)).trans (b48.block k hk))
    have hB9 : Below w.heap.size w w9 := (hB7.trans (hb8.mono hB7.size)).trans hb9
    obtain ⟨A9, c9, rfl⟩ := own_slice hrow9
    have cS9 := hS9.cell
    have cM9 := hM9.cell
    have fM9 := hM9.frozen
    have cA9 := hv9.cell
    have hMle : w.heap.size ≤ w4.heap.size := hB4.size
    have HB9 := Aside0.mk hB9
    have HMle := Aside0.mk hMle
    have HR9 := Aside0.mk hR9
    have HRW := Aside0.mk (own_R hrow9)
    have HM9 := Aside0.mk hM9
    have HV9 := Aside0.mk hv9
    have HC2 := Aside0.mk hc2
    have HL := Aside0.mk hl1
    obtain ⟨cnt, hcnt⟩ : ∃ c, cntOf stop l.length = c := ⟨_, rfl⟩
    rw [hcnt] at HRW HV9 cA9
    have HN := Aside0.mk hcnt
    have HNM := Aside0.mk neM
    clear hS1 hS2 hS3 hS4 hS5 hS6 hS7 hS8 hS9 hM5 hM6 hM7 hM8 hM9 hA7 hA8 hG hG1 hG2 hG3 hG4 hG5 hG6 hG7 hB2 hB3 hB4 hB5 hB6 hB7 hB9 b45 b46 b67 b47 b48 hb1 hb2 hb3 hb4 hb6 hb8 hb9 hrow1 hrow4 hrow8 hrow9 hR2 hR9 hC1 hC2 hk9 hBx C11 C15 C17 hz7 neS neM neB hMle hc1 hv9 hl1 hcnt hB8 hc2 cM5 hW1 hn5 h5
    by_cases hst : 1 ≤ stop ∧ stop < (l.length : Int)
    · obtain ⟨h1, h2⟩ := hst
      have hcn : cnt = stop.toNat := by rw [← HN.out]; unfold cntOf; rw [if_pos ⟨h1, h2⟩]
      obtain ⟨i0, hi, _⟩ := info_parts info31
      have hsl := cut_to (P := Tryd.prog) 26 31 .i64 Tryd.underlying26 hi A2 l.length c2 stop (by omega) (by omega) HC2.out
      have d1 : decide (1 ≤ stop) = true := decide_eq_true h1
      have d2 : decide (stop < (l.length : Int)) = true := decide_eq_true h2
      have cM10 := (HM9.out.set (.slice A2 stop.toNat c2)).cell
      have cA10 := (apart (u := .slice A2 stop.toNat c2) HV9.out HNM.out.symm).cell
      have hle : stop.toNat ≤ l.length := by omega
      have HLE := Aside0.mk hle
      have HCN := Aside0.mk hcn
      clear h1 h2 hcn hle hi
      go_wp2_with fail
      have hc := HCN.out
      have hle := HLE.out
      have hll := HL.out
      have htl : (l.take cnt).length = stop.toNat := by rw [List.length_take, hc]; omega
      have ne31 : ∀ q, q ∈ 31 :: k31.E → q ≠ 26 := by decide
      obtain ⟨Ax, cx, ex, hx, hCx⟩ := Kd.R_reads (Kd.R_set HRW.out HM9.out ne31 0 (.slice A2 stop.toNat c2))
      obtain ⟨rfl, rfl⟩ : A9 = Ax ∧ c9 = cx := by injection ex with h1 h2 h3; exact ⟨h1, h3⟩
      have hRT := Kd.R_take HR9.out (m := cnt) (by omega)
      have hRT2 : Kd.R k31 31 w9 w3.heap.size (fun _ => True) (.slice A2 cnt c2) (l.take cnt) := hRT
      obtain ⟨Ay, cy, ey, hy, hCy⟩ := Kd.R_reads (Kd.R_set hRT2 HM9.out ne31 0 (.slice A2 stop.toNat c2))
      obtain ⟨rfl, rfl⟩ : A2 = Ay ∧ c2 = cy := by injection ey with h1 h2 h3; exact ⟨h1, h3⟩
      refine (same_calls A9 c9 A2 c2 _ _ (l.take cnt) _ (by rw [List.length_take]) htl.symm hCx hx hCy hy (by omega)).mono ?_
      rintro e w11 ⟨rfl, hb11⟩
      have hB10 := HB9.out.setCell (p := ⟨w4.heap.size, 0, none⟩) HMle.out (.slice A2 stop.toNat c2)
      have HE := Aside0.mk (hB10.trans (hb11.mono hB10.size))
      go_wp2
      go_ret
      exact ⟨rfl, HE.out⟩
    · have hcn : cnt = l.length := by rw [← HN.out]; unfold cntOf; rw [if_neg hst]
      have htl : l.take cnt = l := by rw [hcn, List.take_length]
      rw [htl] at HRW HV9 cA9
      have fin : ∀ {R : Ending → World → Prop}, (∀ w11, Below w.heap.size w w11 → R (.returned (.bool true)) w11) → Calls Tryd.prog 16 #[.slice A9 l.length c9, .slice A2 l.length c2] w9 R := by
        intro R hR
        have hll := HL.out
        obtain ⟨Ax, cx, ex, hx, hCx⟩ := Kd.R_reads HRW.out
        obtain ⟨rfl, rfl⟩ : A9 = Ax ∧ c9 = cx := by injection ex with h1 h2 h3; exact ⟨h1, h3⟩
        obtain ⟨Ay, cy, ey, hy, hCy⟩ := Kd.R_reads HR9.out
        obtain ⟨rfl, rfl⟩ : A2 = Ay ∧ c2 = cy := by injection ey with h1 h2 h3; exact ⟨h1, h3⟩
        refine (same_calls A9 c9 A2 c2 _ _ l _ rfl rfl hCx hx hCy hy (by omega)).mono ?_
        rintro e w11 ⟨rfl, hb11⟩
        exact hR w11 (HB9.out.trans (hb11.mono HB9.out.size))
      have HF := Aside0.mk @fin
      clear fin
      by_cases h1 : 1 ≤ stop
      · have d1 : decide (1 ≤ stop) = true := decide_eq_true h1
        have d2 : decide (stop < (l.length : Int)) = false := decide_eq_false (fun h => hst ⟨h1, h⟩)
        clear h1 hst hcn htl
        go_wp2_with fail
        refine HF.out fun w11 hE => ?_
        have HE := Aside0.mk hE
        clear hE
        go_wp2
        go_ret
        exact ⟨rfl, HE.out⟩
      · have d1 : decide (1 ≤ stop) = false := decide_eq_false h1
        clear h1 hst hcn htl
        go_wp2_with fail
        refine HF.out fun w11 hE => ?_
        have HE := Aside0.mk hE
        clear hE
        go_wp2
        go_ret
        exact ⟨rfl, HE.out⟩
theorem reads_calls (a0 : ByteArray) (a1 : Int) (w : World) (hG : GW w) : Calls Tryd.prog 6 #[.string a0, .int .i64 a1] w fun e w' => e = .returned (.bool true) ∧ Below w.heap.size w w' := by
  have := reads_law a0.data.toList a1 w hG
  rw [ba_of] at this
  exact this
end Go.Proofs.YtaihipdebmcmhaaDoor.Lines
