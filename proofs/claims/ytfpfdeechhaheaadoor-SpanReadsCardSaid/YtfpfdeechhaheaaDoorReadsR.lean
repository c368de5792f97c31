/- The plain law of SpanReads: the program reads what a text is. -/
import Derived.Test.YtfpfdeechhaheaaDoorReadsQ
namespace Go.Proofs.YtfpfdeechhaheaaDoor.Reads
open Go.RowKit Go.Proofs.YtfpfdeechhaheaaDoorW.PrintWords Go.Proofs.YtfpfdeechhaheaaDoorW.PrintLast
set_option linter.unusedVariables false
set_option linter.unusedSectionVars false
set_option linter.unusedSimpArgs false
theorem hasp (r p : List UInt8) : stringslite_HasPrefix.f (ba r) (ba p) = some (p.isPrefixOf r) := by
  unfold stringslite_HasPrefix.f
  have hp := pfx p (ba r)
  rw [ba_list, ba_size] at hp
  rw [ba_size, ba_size]
  have e : (ba p).toList = p := by rw [Lib.toList_data, ba_list]
  by_cases h : p.length ≤ r.length
  · rw [if_pos (by omega), if_pos (by omega), if_pos (by omega), e, Int.toNat_natCast]
    congr 1
    rw [Bool.eq_iff_iff, hp]
    exact ⟨fun x => ⟨h, x⟩, fun x => x.2⟩
  · rw [if_neg (by omega)]
    congr 1
    symm
    rw [Bool.eq_false_iff]
    intro x
    exact h (hp.1 x).1
theorem cutp (r p : List UInt8) : strings_CutPrefix.f (ba r) (ba p) = some (if p.isPrefixOf r = true then (ba (r.drop p.length), true) else (ba r, false)) := by
  unfold strings_CutPrefix.f stringslite_CutPrefix.f
  rw [hasp, Option.bind_some]
  by_cases h : p.isPrefixOf r = true
  · obtain ⟨s, rfl⟩ := List.isPrefixOf_iff_prefix.1 h
    have := (cut_ba p s).2
    have hz : ((ba p).size : Int) = (p.length : Int) := by rw [ba_size]
    have hz2 : ((ba (p ++ s)).size : Int) = (p.length : Int) + (s.length : Int) := by rw [ba_size, List.length_append]; omega
    rw [if_pos h, if_pos h, hz, hz2, if_pos (by omega), if_pos (by omega), Option.bind_some, Int.toNat_natCast, this, List.drop_left]
  · rw [if_neg h, if_neg h]; rfl
theorem trim (l : List UInt8) : strings_TrimLeft.f (ba l) (⟨#[32]⟩ : ByteArray) = some (ba (d32 l)) := by
  unfold strings_TrimLeft.f
  rw [if_pos rfl, ba_list]
  rfl
def U : List S57 := [(⟨(⟨#[115, 101, 99]⟩ : ByteArray), 1⟩ : S57), (⟨(⟨#[115]⟩ : ByteArray), 1⟩ : S57), (⟨(⟨#[109, 105, 110]⟩ : ByteArray), 60⟩ : S57), (⟨(⟨#[109]⟩ : ByteArray), 60⟩ : S57), (⟨(⟨#[104, 114]⟩ : ByteArray), 3600⟩ : S57), (⟨(⟨#[104]⟩ : ByteArray), 3600⟩ : S57), (⟨(⟨#[100]⟩ : ByteArray), 86400⟩ : S57), (⟨(⟨#[119]⟩ : ByteArray), 604800⟩ : S57)]
theorem units_f : span_units.f = some U := rfl
theorem eight {P : Nat → Prop} (h0 : P 0) (h1 : P 1) (h2 : P 2) (h3 : P 3) (h4 : P 4) (h5 : P 5) (h6 : P 6) (h7 : P 7) (i : Nat) (hi : i < 8) : P i := by
  rcases (by omega : i = 0 ∨ i = 1 ∨ i = 2 ∨ i = 3 ∨ i = 4 ∨ i = 5 ∨ i = 6 ∨ i = 7) with rfl | rfl | rfl | rfl | rfl | rfl | rfl | rfl <;> assumption
def u1 (i : Nat) : List UInt8 × Int := units1.getD i ([], 0)
theorem drop1 (i : Nat) (hi : i < 8) : units1.drop i = u1 i :: units1.drop (i + 1) :=
  eight (P := fun i => units1.drop i = u1 i :: units1.drop (i + 1)) rfl rfl rfl rfl rfl rfl rfl rfl i hi
theorem rd1 (i : Nat) (hi : i < 8) : rd_T57 U (i : Int) = ⟨ba (u1 i).1, (u1 i).2⟩ :=
  eight (P := fun i => rd_T57 U (i : Int) = ⟨ba (u1 i).1, (u1 i).2⟩) rfl rfl rfl rfl rfl rfl rfl rfl i hi
theorem sec1 (i : Nat) (hi : i < 8) : 0 ≤ (u1 i).2 ∧ (u1 i).2 < 1048576 :=
  eight (P := fun i => 0 ≤ (u1 i).2 ∧ (u1 i).2 < 1048576) (by decide) (by decide) (by decide) (by decide) (by decide) (by decide) (by decide) (by decide) i hi
def resP (n : Int) (r : List UInt8) (o : Option (Int × Nat)) : Int × ByteArray × Bool :=
  match o with
  | some x => (tv (n * x.1), ba (d32 (r.drop x.2)), true)
  | none => (tv (n * 1), ba [], r == [])
theorem part_l1 (r : List UInt8) (n : Int) (h0 : 0 ≤ n) (h1 : n < 1152921504606846976) : ∀ (j i : Nat), i + j = 8 → EvS (fun k => span_part.l1 k (ba r) n none U 8 (i : Int)) (resP n r (fu (units1.drop i) r)) := by
  intro j
  induction j with
  | zero =>
    intro i hi
    obtain rfl : i = 8 := by omega
    refine EvS.pure fun m => ?_
    rw [span_part.l1, if_neg (by decide), times_f n 1 h0 h1 (by decide) (by decide), Option.bind_some, if_pos (show ((none : Option Int).isNone = true) from rfl)]
    have e : (ba r).toList = r := by rw [Lib.toList_data, ba_list]
    rw [e]
    rfl
  | succ j ih =>
    intro i hi
    have hi8 : i < 8 := by omega
    have ih := ih (i + 1) (by omega)
    have hU : (U.length : Int) = 8 := rfl
    by_cases hp : (u1 i).1.isPrefixOf r = true
    · refine EvS.pure fun m => ?_
      obtain ⟨s0, s1⟩ := sec1 i hi8
      rw [span_part.l1, if_pos (by omega), if_pos (by omega), if_pos (by omega), rd1 i hi8, cutp, Option.bind_some, if_pos hp, if_pos rfl, times_f n _ h0 h1 s0 s1, Option.bind_some, trim, Option.bind_some, if_pos (show ((none : Option Int).isNone = true) from rfl)]
      unfold fu
      rw [drop1 i hi8, List.find?_cons, hp]
      rfl
    · have e : fu (units1.drop i) r = fu (units1.drop (i + 1)) r := by
        unfold fu
        have hp' : (u1 i).1.isPrefixOf r = false := Bool.eq_false_iff.mpr hp
        rw [drop1 i hi8, List.find?_cons, hp']
      rw [e]
      refine EvS.step ih fun m => ?_
      rw [span_part.l1, if_pos (by omega), if_pos (by omega), if_pos (by omega), rd1 i hi8, cutp, Option.bind_some, if_neg hp]
      dsimp only
      rw [if_neg (by decide), wrap_ok (by omega) (by omega)]
      rfl
theorem pos_self (t : List UInt8) : pos t t = 0 := by unfold pos; omega
theorem prog_part (t : List UInt8) (ht : t.length ≤ 5000) : match part t with
    | some (v, r) => EvS (fun k => span_part.f k (ba t)) (v, ba r, true)
    | none => ∃ v r, EvS (fun k => span_part.f k (ba t)) (v, r, false) := by
  obtain ⟨ds, hds⟩ : ∃ ds, t.takeWhile isdig = ds := ⟨_, rfl⟩
  obtain ⟨rest, hrest⟩ : ∃ rest, t.dropWhile isdig = rest := ⟨_, rfl⟩
  have ht2 : ds ++ rest = t := by rw [← hds, ← hrest]; exact List.takeWhile_append_dropWhile
  have hp : pos t rest = (ds.length : Int) := by rw [← ht2]; unfold pos; rw [List.length_append]; omega
  have hz : ((ba t).size : Int) = (ds.length : Int) + (rest.length : Int) := by rw [ba_size, ← ht2, List.length_append]; omega
  have go : ∀ res, EvS (fun k => span_part.j1 k (ba t) (ds.length : Int)) res → EvS (fun k => span_part.f k (ba t)) res := by
    intro res ⟨K, h⟩
    refine EvS.of (fun k => span_part.mono _ k) ?_
    have := part_l0 (ba_list t) ht res t (List.suffix_refl _) ⟨K, by rw [hrest, hp]; exact h K (Nat.le_refl _)⟩
    rw [pos_self] at this
    exact this
  unfold part
  rw [hds, hrest]
  by_cases hc : ds.length = 0 ∨ ds.length > 18
  · rw [if_pos hc]
    refine ⟨0, ⟨#[]⟩, go _ ?_⟩
    refine EvS.atLeast 2 fun n => ?_
    rw [span_part.j1]
    by_cases h0 : (ds.length : Int) = 0
    · rw [if_pos h0, span_part.j2, if_pos rfl]
    · rw [if_neg h0, span_part.j2, if_pos (by rw [decide_eq_true_eq]; omega)]
  · rw [if_neg hc]
    have hl : EvS (fun k => span_part.f k (ba t)) (resP (numOf 0 ds : Nat) (d32 rest) (fu unitNames (d32 rest))) := by
      refine go _ ?_
      have hn : ((numOf 0 ds : Nat) : Int) < 1152921504606846976 := by
        have := num_small t (by rw [hds]; omega)
        rw [hds] at this; exact this
      have h1 := part_l1 (d32 rest) (numOf 0 ds : Nat) (by omega) hn 8 0 (by omega)
      rw [List.drop_zero, fu_same] at h1
      have hdig := take_digits t
      rw [hds] at hdig
      have e1 : strconv_ParseUint_31.f (ba ds) 10 64 = some (((numOf 0 ds : Nat) : Int), none) := by
        unfold strconv_ParseUint_31.f
        rw [ba_size, ba_list, if_pos ⟨rfl, rfl, by omega, by omega, hdig⟩]
      obtain ⟨c1, c2⟩ := cut_ba ds rest
      rw [ht2] at c1 c2
      refine EvS.step (EvS.step h1 (f := fun k => span_part.j2 k (ba t) (ds.length : Int) false) fun n => ?_) fun n => ?_
      · rw [span_part.j2, if_neg (by decide), if_pos (by omega), if_pos (by omega), Int.toNat_natCast, c1, c2, e1, Option.bind_some, trim, Option.bind_some, units_f, Option.bind_some]
        rfl
      · rw [span_part.j1, if_neg (by omega), decide_eq_false (by omega)]
    cases hf : fu unitNames (d32 rest) with
    | some x =>
      rw [hf] at hl
      exact hl
    | none =>
      rw [hf] at hl
      simp only []
      by_cases hr : d32 rest = []
      · rw [if_pos hr]
        rw [hr] at hl
        exact hl
      · rw [if_neg hr]
        refine ⟨tv (((numOf 0 ds : Nat) : Int) * 1), ba [], ?_⟩
        have e : (d32 rest == []) = false := by rw [beq_eq_false_iff_ne]; exact hr
        unfold resP at hl
        rw [e] at hl
        exact hl
theorem ba_toList (t : List UInt8) : (ba t).toList = t := by rw [Lib.toList_data, ba_list]
theorem add_ev (a b : Int) (ha : 0 ≤ a ∧ a ≤ 9223372036854775807) (hb : 0 ≤ b ∧ b ≤ 9223372036854775807) : EvS (fun k => span_Add.f k a b) (tv (a + b)) :=
  EvS.atLeast 2 fun n => span_add a b ha.1 ha.2 hb.1 hb.2 n
theorem refadd_ev (a b : Int) (ha : 0 ≤ a ∧ a ≤ 9223372036854775807) (hb : 0 ≤ b ∧ b ≤ 9223372036854775807) : EvS (fun k => reveilleref1_Add.f k a b) (tv (a + b)) :=
  EvS.atLeast 2 fun n => ref_add a b ha.1 ha.2 hb.1 hb.2 n
theorem prog_sum : ∀ (n : Nat) (t : List UInt8) (acc : Int) (first : Bool), t.length ≤ n → t.length ≤ 5000 → 0 ≤ acc ∧ acc ≤ 9223372036854775807 → (first = true ∨ t ≠ []) →
    EvS (fun k => span_Parse.l0 k (ba t) acc first) (sum (n + 1) t acc) := by
  intro n
  induction n with
  | zero =>
    intro t acc first ht h5 hacc hf
    have : t = [] := List.length_eq_zero_iff.1 (by omega)
    subst this
    obtain rfl : first = true := by rcases hf with h | h; exact h; exact absurd rfl h
    have hp := prog_part [] (by decide)
    rw [show part [] = none from rfl] at hp
    obtain ⟨v, r, K, hp⟩ := hp
    refine ⟨K + 2, fun m hm => ?_⟩
    obtain ⟨j, rfl⟩ : ∃ j, m = j + 2 := ⟨m - 2, by omega⟩
    simp only []
    rw [span_Parse.l0, if_pos rfl, span_Parse.j1, if_pos rfl, show span_part.f j (ba []) = _ from hp j (by omega), Option.bind_some]
    dsimp only
    rw [if_neg (by decide)]
    rfl
  | succ n ih =>
    intro t acc first ht h5 hacc hf
    have e0 : ∀ k, span_Parse.l0 (k + 1) (ba t) acc first = span_Parse.j1 k (ba t) acc true := by
      intro k
      rw [span_Parse.l0]
      by_cases h : first = true
      · rw [if_pos h]
      · rw [if_neg h, ba_toList]
        rcases hf with h2 | h2
        · exact absurd h2 h
        · have : (t != []) = true := by simpa using h2
          rw [this]
    have hp := prog_part t h5
    have hr := @part_range t
    have hs := @part_shorter t
    rw [sum]
    cases hpt : part t with
    | none =>
      rw [hpt] at hp
      obtain ⟨v, r, K, hp⟩ := hp
      refine ⟨K + 2, fun m hm => ?_⟩
      obtain ⟨j, rfl⟩ : ∃ j, m = j + 2 := ⟨m - 2, by omega⟩
      simp only []
      rw [e0, span_Parse.j1, if_pos rfl, show span_part.f j (ba t) = _ from hp j (by omega), Option.bind_some]
      dsimp only
      rw [if_neg (by decide)]
    | some x =>
      obtain ⟨v, r⟩ := x
      rw [hpt] at hp
      have hr := hr hpt
      have hs := hs hpt
      obtain ⟨K, hp⟩ := hp
      have htv := tv_range (acc + v) (by omega)
      obtain ⟨K2, ha⟩ := add_ev acc v hacc hr
      have next : ∀ res, EvS (fun k => span_Parse.l0 k (ba r) (tv (acc + v)) false) res → EvS (fun k => span_Parse.l0 k (ba t) acc first) res := by
        intro res ⟨K3, h⟩
        refine ⟨K + K2 + K3 + 2, fun m hm => ?_⟩
        obtain ⟨j, rfl⟩ : ∃ j, m = j + 2 := ⟨m - 2, by omega⟩
        simp only []
        rw [e0, span_Parse.j1, if_pos rfl, show span_part.f j (ba t) = _ from hp j (by omega), Option.bind_some, if_pos rfl]
        simp only []
        rw [show span_Add.f j acc v = _ from ha j (by omega), Option.bind_some]
        exact h j (by omega)
      cases r with
      | nil =>
        refine next _ (EvS.atLeast 2 fun m => ?_)
        rw [span_Parse.l0, if_neg (by decide), ba_toList, span_Parse.j1, if_neg (by decide)]
      | cons c r =>
        exact next _ (ih (c :: r) _ false (by omega) (by omega) htv (.inr (by simp)))
def infinity : List UInt8 := [105, 110, 102, 105, 110, 105, 116, 121]
def reads (L : List UInt8) : Int × Int := if L = infinity then (9223372036854775807, 0) else sum ((d32 L).length + 1) (d32 L) 0
theorem prog_reads (L : List UInt8) (hn : L.length ≤ 5000) : EvS (fun k => span_Parse.f k (ba L)) (reads L) := by
  unfold reads infinity
  have e : (ba L).toList = L := ba_toList L
  by_cases h : L = ([105, 110, 102, 105, 110, 105, 116, 121] : List UInt8)
  · refine ⟨0, fun k _ => ?_⟩
    simp only []
    rw [span_Parse.f, e, if_pos h, if_pos h]
  · rw [if_neg h]
    have hl := (d32_suffix L).length_le
    refine EvS.eqn (prog_sum (d32 L).length (d32 L) 0 true (Nat.le_refl _) (by omega) ⟨by decide, by decide⟩ (.inl rfl)) fun k => ?_
    rw [span_Parse.f, e, if_neg h, trim, Option.bind_some]
end Go.Proofs.YtfpfdeechhaheaaDoor.Reads
