/- The plain law of SpanReads: the reference reads what a text is. -/
import Derived.Test.YtfpfdeechhaheaaDoorReadsR
namespace Go.Proofs.YtfpfdeechhaheaaDoor.Reads
open Go.RowKit Go.Proofs.YtfpfdeechhaheaaDoorW.PrintWords Go.Proofs.YtfpfdeechhaheaaDoorW.PrintLast
set_option linter.unusedVariables false
set_option linter.unusedSectionVars false
set_option linter.unusedSimpArgs false
theorem digit_f (c : UInt8) : reveilleref1_digit.f (c.toNat : Int) = some (isdig c) := by
  unfold reveilleref1_digit.f isdig
  by_cases h : (c.toNat : Int) ≥ 48
  · rw [if_pos h]
    congr 1
    rw [decide_eq_decide]
    omega
  · rw [if_neg h]
    congr 1
    symm
    rw [decide_eq_false_iff_not]
    omega
section
variable {a0 : ByteArray} {L : List UInt8} (hL : a0.data.toList = L) (hn : L.length ≤ 5000)
include hL hn
theorem blanks_ev (t : List UInt8) (hs : t <:+ L) : EvS (fun k => reveilleref1_blanks.f k a0 (pos L t)) (pos L (d32 t)) :=
  EvS.of (fun k => reveilleref1_blanks.mono _ _ k) (blanks_l0 hL hn t hs)
theorem ref_l1 (acc : Int) (res : Int × Int) : ∀ (t : List UInt8) (n c : Nat), t <:+ L → c ≤ 18 → n < 10 ^ c →
    (c + (t.takeWhile isdig).length > 18 → res = (0, 10)) →
    (c + (t.takeWhile isdig).length ≤ 18 → EvS (fun k => reveilleref1_Parse.j2 k a0 acc (pos L (t.dropWhile isdig)) ((numOf n (t.takeWhile isdig) : Nat) : Int) ((c + (t.takeWhile isdig).length : Nat) : Int) false) res) →
    EvS (fun k => reveilleref1_Parse.l1 k a0 acc (pos L t) (n : Int) (c : Int)) res := by
  intro t
  induction t with
  | nil =>
    intro n c hs hc hnc h1 h2
    refine EvS.step (h2 hc) fun k => ?_
    rw [reveilleref1_Parse.l1, if_neg (by rw [pos_nil hL]; omega)]
    rfl
  | cons d t ih =>
    intro n c hs hc hnc h1 h2
    have hs2 : t <:+ L := (List.suffix_cons d t).trans hs
    by_cases hd : isdig d = true
    · rw [List.takeWhile_cons_of_pos hd] at h1 h2
      rw [List.dropWhile_cons_of_pos hd] at h2
      have hd' : 48 ≤ d.toNat ∧ d.toNat ≤ 57 := of_decide_eq_true hd
      by_cases h18 : c = 18
      · subst h18
        rw [h1 (by simp)]
        refine EvS.atLeast 2 fun k => ?_
        rw [reveilleref1_Parse.l1, if_pos (pos_lt hL hs), if_pos (pos_ge hL hs), bt_pos hL hs, digit_f, Option.bind_some, hd, reveilleref1_Parse.j2, if_pos rfl, if_pos (by rfl)]
      · have hpow : n * 10 + (d.toNat - 48) < 10 ^ (c + 1) := by rw [Nat.pow_succ]; omega
        have hle : 10 ^ c ≤ 10 ^ 17 := Nat.pow_le_pow_right (by decide) (by omega)
        have ih := ih (n * 10 + (d.toNat - 48)) (c + 1) hs2 (by omega) hpow
          (fun h => h1 (by rw [List.length_cons]; omega))
          (fun h => by
            have := h2 (by rw [List.length_cons]; omega)
            rw [List.length_cons, show c + ((t.takeWhile isdig).length + 1) = c + 1 + (t.takeWhile isdig).length by omega] at this
            exact this)
        refine EvS.step (EvS.step ih (f := fun k => reveilleref1_Parse.j2 k a0 acc (pos L (d :: t)) (n : Int) (c : Int) true) fun k => ?_) fun k => ?_
        · have e1 : IntKind.u64.wrap ((IntKind.u64.wrap (10 * (n : Int))) + ((((d.toNat : Int)) - 48) % 256)) = ((n * 10 + (d.toNat - 48) : Nat) : Int) := by
            simp only [u64_mod]; omega
          rw [reveilleref1_Parse.j2, if_pos rfl, if_neg (by omega), if_pos (pos_ge hL hs), if_pos (pos_lt hL hs), bt_pos hL hs, pos_next hL hn hs, e1, wrap_ok (by omega) (by omega)]
          rfl
        · rw [reveilleref1_Parse.l1, if_pos (pos_lt hL hs), if_pos (pos_ge hL hs), bt_pos hL hs, digit_f, Option.bind_some, hd]
    · rw [List.takeWhile_cons_of_neg hd] at h2
      rw [List.dropWhile_cons_of_neg hd] at h2
      have hd' : isdig d = false := Bool.eq_false_iff.mpr hd
      refine EvS.step (h2 hc) fun k => ?_
      rw [reveilleref1_Parse.l1, if_pos (pos_lt hL hs), if_pos (pos_ge hL hs), bt_pos hL hs, digit_f, Option.bind_some, hd']
      rfl
theorem ref_j3 (acc : Int) (hacc : 0 ≤ acc ∧ acc ≤ 9223372036854775807) (res : Int × Int) (r : List UInt8) (hs : r <:+ L) (n : Int) (h0 : 0 ≤ n) (h1 : n < 1152921504606846976) (s : Int) (s0 : 0 ≤ s) (s1 : s < 1048576) (m : Nat) (hm : m ≤ r.length)
    (next : EvS (fun k => reveilleref1_Parse.l0 k a0 (tv (acc + tv (n * s))) (pos L (d32 (r.drop m)))) res) :
    EvS (fun k => reveilleref1_Parse.j3 k a0 acc (pos L r) n s (m : Int) false) res := by
  have hsd : r.drop m <:+ L := (List.drop_suffix _ _).trans hs
  have hw : wrap64 (pos L r + (m : Int)) = pos L (r.drop m) := by
    have := hs.length_le
    have hl : (r.drop m).length = r.length - m := List.length_drop ..
    unfold pos wrap64
    rw [hl]
    omega
  obtain ⟨K1, hb⟩ := blanks_ev hL hn (r.drop m) hsd
  have hp : 0 ≤ n * s := Int.mul_nonneg h0 s0
  obtain ⟨v, hv⟩ : ∃ v, n * s = v := ⟨_, rfl⟩
  have hmul := mul64 n s h0 h1 s0 s1
  rw [hv] at hp hmul next
  have htv := tv_range v hp
  obtain ⟨K2, ha⟩ := refadd_ev acc (tv v) hacc htv
  obtain ⟨K3, hnx⟩ := next
  refine ⟨K1 + K2 + K3 + 1, fun k hk => ?_⟩
  obtain ⟨j, rfl⟩ : ∃ j, k = j + 1 := ⟨k - 1, by omega⟩
  have hb := hb j (by omega)
  have ha := ha j (by omega)
  have hnx := hnx j (by omega)
  simp only [] at hb ha hnx ⊢
  rw [reveilleref1_Parse.j3, if_neg (by decide), hw, hb, Option.bind_some, u64_small s s0 (by omega), hmul, Option.bind_some]
  simp only []
  by_cases c1 : v / 18446744073709551616 = 0
  · rw [if_pos c1]
    by_cases c2 : v % 18446744073709551616 < 9223372036854775807
    · have e : wrap64 (v % 18446744073709551616) = tv v := by
        unfold wrap64 tv
        rw [if_neg (by omega)]; omega
      rw [if_pos c2, e, ha, Option.bind_some]
      exact hnx
    · have e : (9223372036854775807 : Int) = tv v := by
        unfold tv
        by_cases c3 : v > 9223372036854775807
        · rw [if_pos c3]
        · rw [if_neg c3]; omega
      rw [if_neg c2]
      rw [← e] at ha hnx
      rw [ha, Option.bind_some]
      exact hnx
  · have e : (9223372036854775807 : Int) = tv v := by
      unfold tv
      rw [if_pos (by omega)]
    rw [if_neg c1]
    rw [← e] at ha hnx
    rw [ha, Option.bind_some]
    exact hnx
theorem unit_at (r : List UInt8) (hs : r <:+ L) : reveilleref1_unit.f (a0.extract (pos L r).toNat a0.size) = some (match fu unitNames r with | some x => (x.1, (x.2 : Int)) | none => (1, 0)) := by
  rw [tail_pos hL hs]
  unfold reveilleref1_unit.f unitOf fu
  rw [ba_list]
  cases List.find? (fun x => x.1.isPrefixOf r) unitNames <;> rfl
theorem ref_part (acc : Int) (hacc : 0 ≤ acc ∧ acc ≤ 9223372036854775807) (res : Int × Int) (t : List UInt8) (hs : t <:+ L) (ht : t ≠ [])
    (h1 : part t = none → res = (0, 10))
    (h2 : ∀ v r, part t = some (v, r) → EvS (fun k => reveilleref1_Parse.l0 k a0 (tv (acc + v)) (pos L r)) res) :
    EvS (fun k => reveilleref1_Parse.l0 k a0 acc (pos L t)) res := by
  obtain ⟨ds, hds⟩ : ∃ ds, t.takeWhile isdig = ds := ⟨_, rfl⟩
  obtain ⟨rest, hrest⟩ : ∃ rest, t.dropWhile isdig = rest := ⟨_, rfl⟩
  have hsr : rest <:+ L := by rw [← hrest]; exact (List.dropWhile_suffix _).trans hs
  have hsd : d32 rest <:+ L := (d32_suffix _).trans hsr
  have hpart : part t = if ds.length = 0 ∨ ds.length > 18 then none else
      match fu unitNames (d32 rest) with
      | some x => some (tv ((numOf 0 ds : Int) * x.1), d32 ((d32 rest).drop x.2))
      | none => if d32 rest = [] then some (tv ((numOf 0 ds : Int) * 1), []) else none := by
    unfold part; rw [hds, hrest]
    rfl
  refine EvS.step (g := fun k => reveilleref1_Parse.l1 k a0 acc (pos L t) ((0 : Nat) : Int) ((0 : Nat) : Int)) ?_ fun k => ?_
  rotate_left
  · obtain ⟨c, u, rfl⟩ : ∃ c u, t = c :: u := by cases t with | nil => exact absurd rfl ht | cons c u => exact ⟨c, u, rfl⟩
    rw [reveilleref1_Parse.l0, if_pos (pos_lt hL hs)]
    rfl
  refine ref_l1 hL hn acc res t 0 0 hs (by decide) (by decide) (fun hb => ?_) (fun hb => ?_)
  · rw [hds] at hb
    exact h1 (by rw [hpart, if_pos (.inr (by omega))])
  · rw [hds] at hb
    rw [hds, hrest, Nat.zero_add]
    by_cases h0 : ds.length = 0
    · rw [h1 (by rw [hpart, if_pos (.inl h0)])]
      refine EvS.pure fun k => ?_
      rw [reveilleref1_Parse.j2, if_neg (by decide), if_pos (by omega)]
    · rw [if_neg (by omega)] at hpart
      obtain ⟨K1, hbl⟩ := blanks_ev hL hn rest hsr
      have hn2 : ((numOf 0 ds : Nat) : Int) < 1152921504606846976 := by
        have := num_small t (by rw [hds]; omega)
        rw [hds] at this; exact this
      obtain ⟨q1, q2⟩ := pos_le hL (w := d32 rest) (t := []) (by simpa using hsd)
      rw [List.append_nil] at q1
      have hun := unit_at hL hn (d32 rest) hsd
      cases hf : fu unitNames (d32 rest) with
      | some x =>
        rw [hf] at hpart hun
        obtain ⟨f1, f2, f3, f4⟩ := fu_sec hNames hf
        have next := h2 _ _ hpart
        obtain ⟨K2, hj⟩ := ref_j3 hL hn acc hacc res (d32 rest) hsd (numOf 0 ds : Nat) (by omega) hn2 x.1 f1 f2 x.2 f4 next
        refine ⟨K1 + K2 + 1, fun k hk => ?_⟩
        obtain ⟨j, rfl⟩ : ∃ j, k = j + 1 := ⟨k - 1, by omega⟩
        have hbl := hbl j (by omega)
        simp only [] at hbl ⊢
        rw [reveilleref1_Parse.j2, if_neg (by decide), if_neg (by omega), hbl, Option.bind_some, if_pos (pos_ge hL hsd), if_pos (by rw [pos_nil hL] at q1; exact q1), hun, Option.bind_some]
        simp only []
        rw [if_neg (by omega)]
        exact hj j (by omega)
      | none =>
        rw [hf] at hpart hun
        simp only [] at hpart hun
        by_cases hr : d32 rest = []
        · rw [if_pos hr] at hpart
          have next := h2 _ _ hpart
          obtain ⟨K2, hj⟩ := ref_j3 hL hn acc hacc res (d32 rest) hsd (numOf 0 ds : Nat) (by omega) hn2 1 (by decide) (by decide) 0 (by omega) (by rw [hr]; exact next)
          refine ⟨K1 + K2 + 1, fun k hk => ?_⟩
          obtain ⟨j, rfl⟩ : ∃ j, k = j + 1 := ⟨k - 1, by omega⟩
          have hbl := hbl j (by omega)
          simp only [] at hbl ⊢
          rw [reveilleref1_Parse.j2, if_neg (by decide), if_neg (by omega), hbl, Option.bind_some, if_pos (pos_ge hL hsd), if_pos (by rw [pos_nil hL] at q1; exact q1), hun, Option.bind_some]
          simp only []
          rw [if_pos True.intro, decide_eq_false (by rw [hr, pos_nil hL]; omega)]
          exact hj j (by omega)
        · rw [if_neg hr] at hpart
          rw [h1 hpart]
          refine ⟨K1 + 2, fun k hk => ?_⟩
          obtain ⟨j, rfl⟩ : ∃ j, k = j + 2 := ⟨k - 2, by omega⟩
          have hbl := hbl (j + 1) (by omega)
          have hlt : pos L (d32 rest) < (a0.size : Int) := by
            obtain ⟨c, u, he⟩ : ∃ c u, d32 rest = c :: u := by
              cases e : d32 rest with
              | nil => exact absurd e hr
              | cons c u => exact ⟨c, u, rfl⟩
            rw [he] at hsd ⊢
            exact pos_lt hL hsd
          simp only [] at hbl ⊢
          rw [reveilleref1_Parse.j2, if_neg (by decide), if_neg (by omega), hbl, Option.bind_some, if_pos (pos_ge hL hsd), if_pos (by rw [pos_nil hL] at q1; exact q1), hun, Option.bind_some]
          simp only []
          rw [if_pos True.intro, decide_eq_true hlt, reveilleref1_Parse.j3, if_pos rfl]
theorem ref_sum : ∀ (n : Nat) (t : List UInt8) (acc : Int), t.length ≤ n → t <:+ L → t ≠ [] → 0 ≤ acc ∧ acc ≤ 9223372036854775807 →
    EvS (fun k => reveilleref1_Parse.l0 k a0 acc (pos L t)) (sum (n + 1) t acc) := by
  intro n
  induction n with
  | zero => intro t acc ht hs hne; exact absurd (List.length_eq_zero_iff.1 (by omega)) hne
  | succ n ih =>
    intro t acc ht hs hne hacc
    refine ref_part hL hn acc hacc _ t hs hne (fun h => ?_) (fun v r h => ?_)
    · rw [sum, h]
    · have hr := part_range h
      have hsh := part_shorter h
      have htv := tv_range (acc + v) (by omega)
      rw [sum, h]
      have hsuf : r <:+ L := by
        unfold part at h
        split at h
        · exact nomatch h
        · split at h
          · injection h with h; injection h with h3 h4
            rw [← h4]
            exact (d32_suffix _).trans ((List.drop_suffix _ _).trans ((d32_suffix _).trans ((List.dropWhile_suffix _).trans hs)))
          · split at h
            · injection h with h; injection h with h3 h4
              rw [← h4]; exact List.nil_suffix
            · exact nomatch h
      cases r with
      | nil =>
        refine EvS.pure fun k => ?_
        rw [reveilleref1_Parse.l0, if_neg (by rw [pos_nil hL]; omega)]
      | cons c r => exact ih (c :: r) _ (by omega) hsuf (by simp) htv
end
theorem trimmed_l0 (u : List UInt8) (hu : u.getLast? ≠ some 32) : ∀ (n : Nat), u.length + n ≤ 5000 → EvS (fun k => reveilleref1_trimmed.l0 k (ba (u ++ List.replicate n 32))) (ba u) := by
  intro n
  induction n with
  | zero =>
    intro h5
    refine EvS.pure fun k => ?_
    rw [List.replicate_zero, List.append_nil, reveilleref1_trimmed.l0, ba_size]
    rcases List.eq_nil_or_concat u with rfl | ⟨v, c, rfl⟩
    · rw [if_neg (by decide)]
    · rw [List.concat_eq_append] at *
      have hc : ¬ ((c.toNat : Int) = 32) := fun h => hu (by
        rw [List.getLast?_append]
        have : c = 32 := UInt8.toNat_inj.1 (by show c.toNat = 32; omega)
        rw [this]; rfl)
      have hw : wrap64 (((v ++ [c]).length : Int) - 1) = (v.length : Int) := by
        rw [List.length_append] at h5 ⊢
        simp at h5 ⊢
        unfold wrap64; omega
      have hb : bt (ba (v ++ [c])) (v.length : Int) = (c.toNat : Int) := bt_list _ _ c (by rw [ba_list]; simp)
      rw [hw, if_pos (by rw [List.length_append]; simp only [List.length_cons, List.length_nil]; omega), if_pos (by omega), if_pos (by rw [List.length_append]; simp only [List.length_cons, List.length_nil]; omega), hb, if_neg hc]
  | succ n ih =>
    intro h5
    refine EvS.step (ih (by omega)) fun k => ?_
    obtain ⟨v, hv⟩ : ∃ v, u ++ List.replicate n 32 = v := ⟨_, rfl⟩
    have hvl : v.length = u.length + n := by rw [← hv]; simp
    rw [List.replicate_succ', ← List.append_assoc, hv, reveilleref1_trimmed.l0, ba_size]
    have hw : wrap64 (((v ++ [(32 : UInt8)]).length : Int) - 1) = (v.length : Int) := by
      rw [List.length_append]
      simp
      unfold wrap64; omega
    have hb : bt (ba (v ++ [32])) (v.length : Int) = ((32 : UInt8).toNat : Int) := bt_list _ _ 32 (by rw [ba_list]; simp)
    have hx : (ba (v ++ [32])).extract 0 v.length = ba v := (cut_ba v [32]).1
    rw [hw, if_pos (by rw [List.length_append]; simp only [List.length_cons, List.length_nil]; omega), if_pos (by omega), if_pos (by rw [List.length_append]; simp only [List.length_cons, List.length_nil]; omega), hb, if_pos (by rfl), if_pos (by rw [List.length_append]; simp only [List.length_cons, List.length_nil]; omega), Int.toNat_natCast, hx]
theorem ref_reads (L : List UInt8) (hn : L.length ≤ 5000) : EvS (fun k => reveilleref1_Parse.f k (ba L)) (reads L) := by
  unfold reads infinity
  have e : (ba L).toList = L := ba_toList L
  by_cases h : L = ([105, 110, 102, 105, 110, 105, 116, 121] : List UInt8)
  · refine ⟨0, fun k _ => ?_⟩
    simp only []
    rw [reveilleref1_Parse.f, e, if_pos h, if_pos h]
  · rw [if_neg h]
    obtain ⟨u, n, hun, hu⟩ := split_blanks (d32 L)
    have hl := (d32_suffix L).length_le
    have hul : u.length + n = (d32 L).length := by rw [hun]; simp
    obtain ⟨K1, hb⟩ := blanks_ev (ba_list L) hn L (List.suffix_refl _)
    obtain ⟨K2, ht⟩ := trimmed_l0 u hu n (by omega)
    have hp0 := pos_self L
    rw [hp0] at hb
    have htr : ∀ k, K1 + K2 ≤ k → reveilleref1_trimmed.f k (ba L) = some (ba u) := by
      intro k hk
      have hb := hb k (by omega)
      have ht := ht k (by omega)
      simp only [] at hb ht
      obtain ⟨q1, q2⟩ := pos_le (ba_list L) (w := d32 L) (t := []) (by simpa using d32_suffix L)
      rw [List.append_nil] at q1
      rw [reveilleref1_trimmed.f, hb, Option.bind_some, if_pos (pos_ge (ba_list L) (d32_suffix L)), if_pos (by rw [pos_nil (ba_list L)] at q1; exact q1), tail_pos (ba_list L) (d32_suffix L), hun]
      exact ht
    have hE : E (d32 L) u := by
      refine ⟨n, hun, ?_, hu⟩
      intro h0
      subst h0
      cases n with
      | zero => rfl
      | succ n =>
        exfalso
        have hne : d32 L ≠ [] := by rw [hun, List.replicate_succ]; simp
        have := List.head_dropWhile_not (p := fun x : UInt8 => x == 32) (l := L) (w := hne)
        have h3 : (d32 L).head hne = 32 := by
          simp only [hun, List.replicate_succ]; rfl
        unfold d32 at h3
        rw [h3] at this
        exact absurd this (by decide)
    by_cases h0 : u = []
    · subst h0
      obtain rfl : n = 0 := by obtain ⟨m, e1, e2, _⟩ := hE; have := congrArg List.length hun; have e3 := congrArg List.length e1; have := e2 rfl; simp at *; omega
      rw [hun]
      refine ⟨K1 + K2, fun k hk => ?_⟩
      simp only []
      rw [reveilleref1_Parse.f, e, if_neg h, htr k hk, Option.bind_some, if_pos (ba_toList [])]
      rfl
    · have hs := sum_E (d32 L).length u.length (d32 L) u 0 (Nat.le_refl _) (Nat.le_refl _) hE
      rw [hs]
      obtain ⟨K3, hr⟩ := ref_sum (ba_list u) (by omega) u.length u 0 (Nat.le_refl _) (List.suffix_refl _) h0 ⟨by decide, by decide⟩
      rw [pos_self] at hr
      refine ⟨K1 + K2 + K3, fun k hk => ?_⟩
      simp only []
      rw [reveilleref1_Parse.f, e, if_neg h, htr k (by omega), Option.bind_some, ba_toList, if_neg h0]
      exact hr k (by omega)
theorem pure_law (a0 : ByteArray) : ∃ k, reveillelaw1_SpanReads.f k a0 = some true := by
  by_cases hz : (a0.size : Int) > 2000
  · refine ⟨0, ?_⟩
    rw [reveillelaw1_SpanReads.f, reveillelaw1_known.f, Option.bind_some, if_pos rfl, if_pos hz]
  · have hl : a0.data.toList.length = a0.size := by rw [Array.length_toList]; rfl
    obtain ⟨K1, h1⟩ := prog_reads a0.data.toList (by omega)
    obtain ⟨K2, h2⟩ := ref_reads a0.data.toList (by omega)
    rw [ba_of] at h1 h2
    have h1 : span_Parse.f (K1 + K2) a0 = _ := h1 _ (by omega)
    have h2 : reveilleref1_Parse.f (K1 + K2) a0 = _ := h2 _ (by omega)
    refine ⟨K1 + K2, ?_⟩
    rw [reveillelaw1_SpanReads.f, reveillelaw1_known.f, Option.bind_some, if_pos rfl, if_neg hz, h1, Option.bind_some, h2, Option.bind_some, if_pos rfl]
    simp
theorem law_calls (a0 : ByteArray) (w : World) (hs : w.ShapedOpen Tryd.prog) :
    Calls Tryd.prog 3 #[.string a0] w fun e w' => e = .returned (.bool true) ∧ Below w.heap.size w w' := by
  obtain ⟨k, h⟩ := pure_law a0
  exact reveillelaw1_SpanReads.calls k a0 true w h ⟨w, hs, Below.refl _ _⟩
end Go.Proofs.YtfpfdeechhaheaaDoor.Reads
