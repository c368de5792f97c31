/- The plain law of SpanBack: what is printed is read as the number; sums rise. -/
import Derived.Test.YtfpfdeechhaheaaDoorBackP
import Derived.Test.YtfpfdeechhaheaaDoorEvZ
namespace Go.Proofs.YtfpfdeechhaheaaDoor.Reads
open Go.RowKit Go.Proofs.YtfpfdeechhaheaaDoorW.PrintWords Go.Proofs.YtfpfdeechhaheaaDoorW.PrintLast
set_option linter.unusedVariables false
set_option linter.unusedSectionVars false
set_option linter.unusedSimpArgs false
theorem five {P : Nat → Prop} (h0 : P 0) (h1 : P 1) (h2 : P 2) (h3 : P 3) (h4 : P 4) (i : Nat) (hi : i < 5) : P i := by
  rcases (by omega : i = 0 ∨ i = 1 ∨ i = 2 ∨ i = 3 ∨ i = 4) with rfl | rfl | rfl | rfl | rfl <;> assumption
def u5 (i : Nat) : List UInt8 × Int := ub.getD i ([], 0)
theorem drop5 (i : Nat) (hi : i < 5) : ub.drop i = u5 i :: ub.drop (i + 1) :=
  five (P := fun i => ub.drop i = u5 i :: ub.drop (i + 1)) rfl rfl rfl rfl rfl i hi
theorem rd5 (i : Nat) (hi : i < 5) : rd_T57 U5 (i : Int) = ⟨ba (u5 i).1, (u5 i).2⟩ :=
  five (P := fun i => rd_T57 U5 (i : Int) = ⟨ba (u5 i).1, (u5 i).2⟩) rfl rfl rfl rfl rfl i hi
theorem sec5 (i : Nat) (hi : i < 5) : 0 < (u5 i).2 ∧ (u5 i).2 ≤ 604800 ∧ (u5 i).1.length ≤ 3 ∧ (604800 ≤ (u5 i).2 ∨ i ≠ 0) :=
  five (P := fun i => 0 < (u5 i).2 ∧ (u5 i).2 ≤ 604800 ∧ (u5 i).1.length ≤ 3 ∧ (604800 ≤ (u5 i).2 ∨ i ≠ 0)) (by decide) (by decide) (by decide) (by decide) (by decide) i hi
theorem ba_app (a b : List UInt8) : ba a ++ ba b = ba (a ++ b) := by
  apply ByteArray.ext
  apply Array.ext'
  simp [ba, ByteArray.data_append]
theorem map_ba (A : List (List UInt8)) : (A.map ba).map (·.data.toList) = A := by
  rw [List.map_map]
  conv => rhs; rw [← List.map_id A]
  exact List.map_congr_left fun x _ => ba_list x
theorem join_len (A : List (List UInt8)) (h : ∀ x ∈ A, x.length ≤ 21) : (Lib.join A [32]).length ≤ 22 * A.length := by
  cases A with
  | nil => exact Nat.le_refl _
  | cons x A =>
    rw [Lib.join_cons, List.length_append, List.length_cons]
    have := joinTail_len A (fun y hy => h y (List.mem_cons_of_mem _ hy))
    have := h x (List.mem_cons_self ..)
    omega
theorem print_l0 : ∀ (m i : Nat) (n : Int) (A : List (List UInt8)), i + m = 5 → 0 ≤ n → n ≤ 9223372036854775807 → (i = 0 ∨ n < 1000000000000000000) → A.length ≤ i → (∀ x ∈ A, x.length ≤ 21) →
    EvS (fun k => span_Print.l0 k n (A.map ba) U5 (i : Int)) (ba (Lib.join (A ++ (prt (ub.drop i) n).map (fun x => x.1 ++ x.2.1)) [32])) := by
  intro m
  induction m with
  | zero =>
    intro i n A hi h0 hM hb hA hl
    obtain rfl : i = 5 := by omega
    refine EvS.pure fun k => ?_
    have hj := join_len A hl
    rw [span_Print.l0, if_neg (by decide), strings_Join.f, map_ba, List.length_map]
    have e32 : (⟨#[32]⟩ : ByteArray).data.toList = [32] := rfl
    rw [e32, if_pos ⟨by omega, by omega⟩, Option.bind_some]
    show some (ba (Lib.join A [32])) = some (ba (Lib.join (A ++ []) [32]))
    rw [List.append_nil]
  | succ m ih =>
    intro i n A hi h0 hM hb hA hl
    have hi5 : i < 5 := by omega
    obtain ⟨s0, s1, s2, s3⟩ := sec5 i hi5
    obtain ⟨sc, hsc⟩ : ∃ sc, (u5 i).2 = sc := ⟨_, rfl⟩
    have e1 := rd5 i hi5
    have ed := drop5 i hi5
    rw [hsc] at s0 s1 s3
    have r0 : 0 ≤ n % sc := Int.emod_nonneg _ (by omega)
    have r1 : n % sc < sc := Int.emod_lt_of_pos _ s0
    have q0 : 0 ≤ n / sc := Int.ediv_nonneg h0 (by omega)
    have q1 : n / sc < 1000000000000000000 := by
      rcases hb with hb | hb
      · have e : sc = 604800 := by omega
        rw [e]; omega
      · exact Int.lt_of_le_of_lt (Int.ediv_le_self _ h0) hb
    have t1 : Int.tdiv n sc = n / sc := Int.tdiv_eq_ediv_of_nonneg h0
    have t2 : Int.tmod n sc = n % sc := Int.tmod_eq_emod_of_nonneg h0
    have w1 : wrap64 sc = sc := by clear t1 t2; unfold wrap64; omega
    have w2 : wrap64 (n / sc) = n / sc := by clear t1 t2; unfold wrap64; omega
    have w3 : wrap64 ((i : Int) + 1) = ((i + 1 : Nat) : Int) := by clear t1 t2; unfold wrap64; omega
    have hf : ∀ k, span_Print.l0 (k + 1) n (A.map ba) U5 (i : Int) = if n / sc > 0 then ((strconv_FormatInt_25.f (n / sc) 10).bind fun t180 => (if t180.size + (ba (u5 i).1).size ≤ 9223372036854775807 then (if (A.map ba).length < 8796093022208 then (span_Print.l0 k (n % sc) ((A.map ba) ++ [t180 ++ (ba (u5 i).1)]) U5 ((i + 1 : Nat) : Int)) else (none)) else (none))) else (span_Print.l0 k (n % sc) (A.map ba) U5 ((i + 1 : Nat) : Int)) := by
      intro k
      rw [span_Print.l0, e1]
      simp only [hsc]
      rw [w1, t1, t2, w2, w3]
      clear t1 t2 w1 w2 w3
      have hU : (U5.length : Int) = 5 := rfl
      rw [if_pos (by omega), if_pos (by omega), if_pos (by omega), if_neg (by omega)]
    clear t1 t2 w1 w2 w3
    have ep : prt (ub.drop i) n = if n / sc > 0 then (Lib.itoa (n / sc), (u5 i).1, sc) :: prt (ub.drop (i + 1)) (n % sc) else prt (ub.drop (i + 1)) (n % sc) := by
      rw [ed, prt, hsc]
    by_cases c : n / sc > 0
    · rw [if_pos c] at ep
      obtain ⟨i1, i2, i3, i4⟩ := itoa_ok (n / sc) q0 q1
      have ih := ih (i + 1) (n % sc) (A ++ [Lib.itoa (n / sc) ++ (u5 i).1]) (by omega) r0 (by omega) (.inr (by omega)) (by simp; omega) (by
        intro x hx
        rcases List.mem_append.1 hx with hx | hx
        · exact hl x hx
        · rw [List.mem_singleton.1 hx, List.length_append]; omega)
      rw [ep, List.map_cons]
      have ea : A ++ (Lib.itoa (n / sc) ++ (u5 i).1) :: (prt (ub.drop (i + 1)) (n % sc)).map (fun x => x.1 ++ x.2.1) = (A ++ [Lib.itoa (n / sc) ++ (u5 i).1]) ++ (prt (ub.drop (i + 1)) (n % sc)).map (fun x => x.1 ++ x.2.1) := by simp
      show EvS _ (ba (Lib.join (A ++ (Lib.itoa (n / sc) ++ (u5 i).1) :: (prt (ub.drop (i + 1)) (n % sc)).map (fun x => x.1 ++ x.2.1)) [32]))
      rw [ea]
      refine EvS.step ih fun k => ?_
      have ef : strconv_FormatInt_25.f (n / sc) 10 = some (ba (Lib.itoa (n / sc))) := by
        rw [strconv_FormatInt_25.f, if_pos ⟨rfl, by omega, by omega⟩]
        rfl
      rw [hf, if_pos c, ef, Option.bind_some, ba_size, ba_size, if_pos (by omega), List.length_map, if_pos (by omega), ba_app, List.map_append]
      rfl
    · rw [if_neg c] at ep
      have ih := ih (i + 1) (n % sc) A (by omega) r0 (by omega) (.inr (by omega)) (by omega) hl
      rw [ep]
      refine EvS.step ih fun k => ?_
      rw [hf, if_neg c]
theorem hub : ∀ u ∈ ub, u ∈ names8 ∧ 0 < u.2 := by decide
theorem back (a : Int) (h0 : 0 ≤ a) (hM : a ≤ 9223372036854775807) : ∃ t, EvS (fun k => span_Print.f k a) t ∧ EvS (fun k => span_Parse.f k t) (a, 0) := by
  by_cases c1 : a = 9223372036854775807
  · refine ⟨ba infinity, EvS.pure fun k => ?_, ?_⟩
    · rw [span_Print.f, if_pos c1]; rfl
    · have := prog_reads infinity (by decide)
      rw [show reads infinity = (9223372036854775807, 0) from if_pos rfl] at this
      rw [c1]; exact this
  · by_cases c2 : a = 0
    · refine ⟨ba [48, 115], EvS.pure fun k => ?_, ?_⟩
      · rw [span_Print.f, if_neg c1, if_neg (by omega), if_neg (by omega), if_pos c2]; rfl
      · have h := reads_txt [] ⟨[], [48], [], [115], [], 1⟩ (by
          intro q hq
          rw [List.mem_singleton.1 hq]
          exact ⟨.inl rfl, .inl rfl, .inl rfl, by decide, by decide, by decide, by decide⟩) (by decide)
        have := prog_reads [48, 115] (by decide)
        rw [show reads [48, 115] = (0, 0) from h] at this
        rw [c2]; exact this
    · obtain ⟨p1, p2, p3, p4⟩ := pcs_ok ub a [] hub (.inl rfl) h0 (.inr (by intro u hu; cases hu; decide)) hM
      have hr : rem ub a = 0 := Int.emod_one _
      rw [hr, Int.add_zero] at p2
      have h := print_l0 5 0 a [] rfl h0 hM (.inl rfl) (Nat.le_refl _) (fun x hx => nomatch hx)
      rw [List.drop_zero, List.nil_append] at h
      cases hp : prt ub a with
      | nil => rw [hp] at p2; exact absurd p2.symm c2
      | cons x l =>
        rw [hp] at p1 p2 p3 p4 h
        refine ⟨_, EvS.step h fun k => ?_, ?_⟩
        · rw [span_Print.f, if_neg c1, if_neg (by omega), if_neg (by omega), if_neg c2]; rfl
        · have hl := join_len ((x :: l).map fun x => x.1 ++ x.2.1) (fun y hy => by
            obtain ⟨z, hz, rfl⟩ := List.mem_map.1 hy
            exact p4 z hz)
          have h5 : ub.length = 5 := rfl
          rw [List.length_map] at hl
          have h1 := prog_reads (Lib.join ((x :: l).map fun x => x.1 ++ x.2.1) [32]) (by omega)
          have h2 := reads_txt (pcs [32] l) ⟨[], x.1, [], x.2.1, [], x.2.2⟩ p1 (by
            have : total (pcs [] (x :: l)) = a := p2
            show total (pcs [] (x :: l)) ≤ _
            omega)
          have h3 : reads (txt (pcs [] (x :: l))) = (total (pcs [] (x :: l)), 0) := h2
          rw [txt_join, p2] at h3
          rw [h3] at h1
          exact h1
/-! ### sums -/
def sat (a b : Int) : Int := if a = 9223372036854775807 ∨ b = 9223372036854775807 then 9223372036854775807 else if a + b > 9223372036854775807 then 9223372036854775807 else if a + b < -9223372036854775808 then -9223372036854775808 else a + b
theorem add_sat (a b : Int) (ha : -9223372036854775808 ≤ a ∧ a ≤ 9223372036854775807) (hb : -9223372036854775808 ≤ b ∧ b ≤ 9223372036854775807) : EvS (fun k => span_Add.f k a b) (sat a b) := by
  refine EvS.atLeast 3 fun k => ?_
  obtain ⟨W, hW⟩ : ∃ W, wrap64 (a + b) = W := ⟨_, rfl⟩
  have hw : W = (if a + b > 9223372036854775807 then a + b - 18446744073709551616 else if a + b < -9223372036854775808 then a + b + 18446744073709551616 else a + b) := by
    rw [← hW]
    unfold wrap64
    split
    · omega
    · split <;> omega
  unfold sat
  rw [span_Add.f, hW]
  clear hW
  by_cases c1 : a = 9223372036854775807
  · rw [if_pos c1, span_Add.j0, if_pos rfl, if_pos (.inl c1)]
  · rw [if_neg c1]
    by_cases c2 : b = 9223372036854775807
    · rw [span_Add.j0, if_pos (by rw [c2]; rfl), if_pos (.inr c2)]
    · have hn : ¬ (a = 9223372036854775807 ∨ b = 9223372036854775807) := fun h => h.elim c1 c2
      rw [span_Add.j0, if_neg (by simpa using c2), if_neg hn]
      by_cases p1 : a > 0
      · rw [if_pos p1]
        by_cases p2 : b > 0
        · rw [if_pos p2, span_Add.j1]
          by_cases c3 : a + b > 9223372036854775807
          · rw [if_pos c3] at hw
            rw [if_pos (by rw [decide_eq_true_eq]; omega), if_pos c3]
          · rw [if_neg c3, if_neg (by omega)] at hw
            rw [if_neg (by rw [decide_eq_true_eq]; omega), if_neg (by omega), if_neg c3, if_neg (by omega), hw]
        · rw [if_neg (by omega), if_neg (by omega)] at hw
          rw [if_neg p2, span_Add.j1, if_neg (by decide), if_neg (by omega), if_neg (by omega), if_neg (by omega), hw]
      · rw [if_neg p1, span_Add.j1, if_neg (by decide)]
        rw [if_neg (by omega)] at hw
        by_cases n1 : a < 0
        · rw [if_pos n1]
          by_cases n2 : b < 0
          · rw [if_pos n2]
            by_cases c3 : a + b < -9223372036854775808
            · rw [if_pos c3] at hw
              rw [if_pos (by omega), if_neg (by omega), if_pos c3]
            · rw [if_neg c3] at hw
              rw [if_neg (by omega), if_neg (by omega), if_neg c3, hw]
          · rw [if_neg (by omega)] at hw
            rw [if_neg n2, if_neg (by omega), if_neg (by omega), hw]
        · rw [if_neg (by omega)] at hw
          rw [if_neg n1, if_neg (by omega), if_neg (by omega), hw]
theorem sat_comm (a b : Int) : sat a b = sat b a := by
  unfold sat
  rw [Int.add_comm b a]
  by_cases h : a = 9223372036854775807 ∨ b = 9223372036854775807
  · rw [if_pos h, if_pos h.symm]
  · have h2 : ¬ (b = 9223372036854775807 ∨ a = 9223372036854775807) := fun x => h x.symm
    rw [if_neg h, if_neg h2]
theorem sat_mono (a b c : Int) (hb : b ≤ c) (hc : c ≤ 9223372036854775807) : sat a b ≤ sat a c := by
  unfold sat
  repeat' split
  all_goals omega
theorem j1_ok (a b c : Int) (ha : -9223372036854775808 ≤ a ∧ a ≤ 9223372036854775807) (hb : -9223372036854775808 ≤ b ∧ b ≤ 9223372036854775807) (hc : -9223372036854775808 ≤ c ∧ c ≤ 9223372036854775807) (h : b ≤ c) : EvS (fun k => reveillelaw1_SpanBack.j1 k a b c) true := by
  obtain ⟨K1, h1⟩ := add_sat a b ha hb
  obtain ⟨K2, h2⟩ := add_sat a c ha hc
  obtain ⟨K3, h3⟩ := add_sat b a hb ha
  refine ⟨K1 + K2 + K3 + 1, fun k hk => ?_⟩
  obtain ⟨j, rfl⟩ : ∃ j, k = j + 1 := ⟨k - 1, by omega⟩
  have h1 := h1 j (by omega)
  have h2 := h2 j (by omega)
  have h3 := h3 j (by omega)
  simp only [] at h1 h2 h3 ⊢
  rw [reveillelaw1_SpanBack.j1, h1, Option.bind_some, h2, Option.bind_some, if_pos (sat_mono a b c h hc.2), Option.bind_some, h3, Option.bind_some, sat_comm b a]
  simp
theorem j0_ok (a b c : Int) (ha : -9223372036854775808 ≤ a ∧ a ≤ 9223372036854775807) (hb : -9223372036854775808 ≤ b ∧ b ≤ 9223372036854775807) (hc : -9223372036854775808 ≤ c ∧ c ≤ 9223372036854775807) : EvS (fun k => reveillelaw1_SpanBack.j0 k a b c) true := by
  by_cases h : b > c
  · refine EvS.step (j1_ok a c b ha hc hb (by omega)) fun k => ?_
    rw [reveillelaw1_SpanBack.j0, if_pos h]
  · refine EvS.step (j1_ok a b c ha hb hc (by omega)) fun k => ?_
    rw [reveillelaw1_SpanBack.j0, if_neg h]
theorem pure_law (a b c : Int) (ha : -9223372036854775808 ≤ a ∧ a ≤ 9223372036854775807) (hb : -9223372036854775808 ≤ b ∧ b ≤ 9223372036854775807) (hc : -9223372036854775808 ≤ c ∧ c ≤ 9223372036854775807) : ∃ k, reveillelaw1_SpanBack.f k a b c = some true := by
  obtain ⟨K0, h0⟩ := j0_ok a b c ha hb hc
  by_cases hp : a ≥ 0
  · obtain ⟨t, ⟨K1, h1⟩, K2, h2⟩ := back a hp ha.2
    refine ⟨K0 + K1 + K2, ?_⟩
    have h0 := h0 (K0 + K1 + K2) (by omega)
    have h1 := h1 (K0 + K1 + K2) (by omega)
    have h2 := h2 (K0 + K1 + K2) (by omega)
    simp only [] at h0 h1 h2
    rw [reveillelaw1_SpanBack.f, reveillelaw1_known.f, Option.bind_some, if_pos rfl, if_pos hp, h1, Option.bind_some, h2, Option.bind_some, if_pos rfl, if_pos rfl, h0]
  · refine ⟨K0, ?_⟩
    rw [reveillelaw1_SpanBack.f, reveillelaw1_known.f, Option.bind_some, if_pos rfl, if_neg hp]
    exact h0 K0 (Nat.le_refl _)
theorem tab_of_laid {P : Program} {W : World} {laid : List (String × DataW Unit)} (h : laidMetH P laid W) (hplain : (laid.all fun x => x.2.handleName?.isNone) = true) {n : String} {k : IntKind} {zs : List Int}
    (hm : (n, Lib.tabData k zs) ∈ laid) {g N : Nat} {t e : TypeId} (hg : P.globalNamed n = some g) (hty : (P.globals[g]?).map (·.type) = some t)
    (ht : P.underlying t = some (.array N e)) (he : P.underlying e = some (.int k)) (hce : P.cellsOf e = 1) (hct : P.cellsOf t = N) : Lib.TabIs P W n k zs := by
  rw [MakeChecks.laidMetH_plain _ _ _ hplain] at h
  obtain ⟨ps, hv, _⟩ := h
  obtain ⟨g', t', cs, fuel, p, h1, h2, h3, h4⟩ := Ev.laid_mem hv hm
  obtain rfl := Option.some.inj (hg.symm.trans h1)
  obtain rfl := Option.some.inj (hty.symm.trans h2)
  unfold Lib.TabIs
  rw [h3, ← Lib.cells_of_tab ht he hce hct h4]
theorem law_calls (a0 a1 a2 : Int) (w : World) (w0 : (Lit.int .i64 a0).wf = true) (w1 : (Lit.int .i64 a1).wf = true) (w2 : (Lit.int .i64 a2).wf = true) (hs : w.ShapedOpen Tryd.prog) (hT : Tab w) :
    Calls Tryd.prog 4 #[.int .i64 a0, .int .i64 a1, .int .i64 a2] w fun e w' => e = .returned (.bool true) ∧ Below w.heap.size w w' := by
  have r : ∀ x : Int, (Lit.int .i64 x).wf = true → -9223372036854775808 ≤ x ∧ x ≤ 9223372036854775807 := by
    intro x hx
    simpa [Lit.wf, IntKind.min, IntKind.max, IntKind.signed, IntKind.bits] using hx
  obtain ⟨k, h⟩ := pure_law a0 a1 a2 (r _ w0) (r _ w1) (r _ w2)
  exact reveillelaw1_SpanBack.calls k a0 a1 a2 true w h ⟨⟨w, hs, Below.refl _ _⟩, hT⟩
end Go.Proofs.YtfpfdeechhaheaaDoor.Reads
