/- The plain law: quoting; and the law as a whole. -/
import Derived.Test.YtaihipdebmcmhaaDoorSplitsP
namespace Go.Proofs.YtaihipdebmcmhaaDoor.Splits
open Go.RowKit Go.Proofs.YtaihipdebmcmhaaDoorW.PrintWords Go.Proofs.YtaihipdebmcmhaaDoorW.PrintLast
set_option linter.unusedVariables false
set_option linter.unusedSectionVars false
set_option linter.unusedSimpArgs false
theorem texts_same (l : List ByteArray) (hl : l.length ≤ 100000) : ∃ k, reveillehelp_Texts.f k l l = some true := by
  have key : ∀ m i : Nat, i + m = l.length → ∃ k, reveillehelp_Texts.l0 k l l (i : Int) = some true := by
    intro m
    induction m with
    | zero =>
      intro i hi
      refine ⟨1, ?_⟩
      rw [reveillehelp_Texts.l0, if_neg (by omega)]
    | succ m ih =>
      intro i hi
      obtain ⟨k, h⟩ := ih (i + 1) (by omega)
      refine ⟨k + 1, ?_⟩
      rw [reveillehelp_Texts.l0, if_pos (by omega), if_pos (by omega), if_pos (by omega), if_pos rfl, wrap_ok (by omega) (by omega)]
      exact h
  obtain ⟨k, h⟩ := key l.length 0 (by omega)
  exact ⟨k, by unfold reveillehelp_Texts.f; rw [if_pos rfl]; exact h⟩
/-- each byte c by others -/
def rep (c : UInt8) (n : List UInt8) (l : List UInt8) : List UInt8 := l.flatMap fun x => if x = c then n else [x]
theorem rep_len (c : UInt8) (n l : List UInt8) (h : n.length = 2) : (rep c n l).length ≤ 2 * l.length := by
  induction l with
  | nil => simp [rep]
  | cons x l ih =>
    unfold rep at ih ⊢
    rw [List.flatMap_cons, List.length_append, List.length_cons]
    split
    · rw [h]; omega
    · rw [List.length_singleton]; omega
theorem replaceK_rep (c : UInt8) (n : List UInt8) : ∀ l : List UInt8, Lib.replaceK [c] n (l.count c) l = rep c n l := by
  intro l
  induction l with
  | nil => rfl
  | cons x l ih =>
    by_cases hx : x = c
    · subst hx
      rw [List.count_cons_self, Lib.replaceK_hit [x] n (l.count x) (x :: l) 0 (by rw [Lib.index_one, Lib.indexByte, if_pos (by simp)]; rfl)]
      unfold rep at ih ⊢
      rw [List.flatMap_cons, if_pos rfl, ← ih]
      rfl
    · rw [List.count_cons_of_ne (by simpa using hx)]
      have e : rep c n (x :: l) = x :: rep c n l := by
        unfold rep
        rw [List.flatMap_cons, if_neg hx]; rfl
      rw [e, ← ih]
      cases hk : l.count c with
      | zero => rfl
      | succ k =>
        have hcnt : 0 < Lib.count l [c] := by rw [Lib.count_one, hk]; omega
        obtain ⟨i, hi⟩ := Lib.index_of_count hcnt
        have hi2 : Lib.index (x :: l) [c] = ((i + 1 : Nat) : Int) := by
          rw [Lib.index_one] at hi ⊢
          rw [Lib.indexByte, if_neg (by simpa using hx), hi, if_neg (by simp)]
          omega
        rw [Lib.replaceK_hit [c] n k l i hi, Lib.replaceK_hit [c] n k (x :: l) (i + 1) hi2]
        rw [List.take_succ_cons]
        simp only [List.length_singleton, List.cons_append, show i + 1 + 1 = (i + 1) + 1 from rfl, List.drop_succ_cons]
theorem replaceAll_rep (c : UInt8) (n l : List UInt8) (h : n.length = 2) : Lib.replaceAll l [c] n = rep c n l := by
  unfold Lib.replaceAll Lib.replace
  rw [if_neg (by intro e; have := congrArg List.length (eq_of_beq e); simp [h] at this)]
  unfold Lib.replaceNum
  rw [if_pos (.inl (by decide)), Lib.count_one]
  exact replaceK_rep c n l
theorem replace_f (c : UInt8) (n : List UInt8) (l : List UInt8) (hn : n.length = 2) (hl : l.length ≤ 100000) : strings_ReplaceAll.f (ba l) (ba [c]) (ba n) = some (ba (rep c n l)) := by
  unfold strings_ReplaceAll.f
  have h1 := Lib.countB_mul_le (ba [c]) (by rw [ba_size]; simp) (ba l).size (ba l) (Nat.le_refl _)
  rw [ba_size, ba_size] at h1
  simp only [List.length_singleton, Nat.mul_one] at h1
  rw [if_pos ⟨by rw [ba_size]; omega, by rw [ba_size]; simp, by rw [ba_size, ba_size, hn]; omega⟩, ba_list, ba_list, ba_list, replaceAll_rep c n l hn]
  rfl
def quo (c : UInt8) : List UInt8 := if c = 34 ∨ c = 92 then [92, c] else if c = 10 then [92, 110] else [c]
theorem rep_quo (l : List UInt8) : rep 10 [92, 110] (rep 34 [92, 34] (rep 92 [92, 92] l)) = l.flatMap quo := by
  have app : ∀ c n a b, rep c n (a ++ b) = rep c n a ++ rep c n b := fun c n a b => by unfold rep; rw [List.flatMap_append]
  induction l with
  | nil => rfl
  | cons x l ih =>
    rw [List.flatMap_cons, ← ih]
    have e : x :: l = [x] ++ l := rfl
    rw [e, app, app, app]
    congr 1
    by_cases h1 : x = 92
    · subst h1; rfl
    by_cases h2 : x = 34
    · subst h2; rfl
    by_cases h3 : x = 10
    · subst h3; rfl
    have r : ∀ c n, x ≠ c → rep c n [x] = [x] := fun c n h => by unfold rep; simp [h]
    rw [r 92 _ h1, r 34 _ h2, r 10 _ h3]
    unfold quo
    rw [if_neg (by simp [h1, h2]), if_neg h3]
theorem quote_line (l : List UInt8) (hl : l.length ≤ 5000) : line_Quote.f (ba l) = some (ba (34 :: (l.flatMap quo ++ [34]))) := by
  unfold line_Quote.f
  have e1 : (⟨#[92]⟩ : ByteArray) = ba [92] := rfl
  have e2 : (⟨#[92, 92]⟩ : ByteArray) = ba [92, 92] := rfl
  have e3 : (⟨#[34]⟩ : ByteArray) = ba [34] := rfl
  have e4 : (⟨#[92, 34]⟩ : ByteArray) = ba [92, 34] := rfl
  have e5 : (⟨#[10]⟩ : ByteArray) = ba [10] := rfl
  have e6 : (⟨#[92, 110]⟩ : ByteArray) = ba [92, 110] := rfl
  have l1 := rep_len 92 [92, 92] l rfl
  have l2 := rep_len 34 [92, 34] (rep 92 [92, 92] l) rfl
  have l3 := rep_len 10 [92, 110] (rep 34 [92, 34] (rep 92 [92, 92] l)) rfl
  rw [e1, e2, e3, e4, e5, e6, replace_f 92 _ l rfl (by omega), Option.bind_some, replace_f 34 _ _ rfl (by omega), Option.bind_some, replace_f 10 _ _ rfl (by omega), Option.bind_some]
  rw [if_pos (by rw [ba_size]; omega), if_pos (by rw [ByteArray.size_append, ba_size, ba_size]; simp; omega), rep_quo]
  rfl
section
variable {a0 : ByteArray} {L : List UInt8} (hL : a0.data.toList = L) (hn : L.length ≤ 5000)
include hL hn
theorem quote_l0 : ∀ t acc, t <:+ L → acc.length + 2 * t.length ≤ 20000 → ∃ k, reveilleref5_Quote.l0 k a0 (nums acc) (pos L t) = some (ba (acc ++ (t.flatMap quo ++ [34]))) := by
  intro t
  induction t with
  | nil =>
    intro acc hs ha
    refine ⟨1, ?_⟩
    rw [reveilleref5_Quote.l0, if_neg (by rw [pos_nil hL]; omega), if_pos (by rw [nums_len]; omega), show nums acc ++ [34] = nums (acc ++ [34]) from nums_app acc 34, str_nums]
    rfl
  | cons c t ih =>
    intro acc hs ha
    have hs2 : t <:+ L := (List.suffix_cons c t).trans hs
    have g1 := pos_lt hL hs
    have g2 := pos_ge hL hs
    have g3 := bt_pos hL hs
    have g4 := pos_next hL hn hs
    simp only [List.length_cons] at ha
    rw [List.flatMap_cons]
    by_cases hq : c = 34 ∨ c = 92
    · have eq : quo c = [92, c] := by unfold quo; rw [if_pos hq]
      obtain ⟨k, h⟩ := ih (acc ++ [92, c]) hs2 (by simp; omega)
      refine ⟨k + 2, ?_⟩
      have e : reveilleref5_Quote.l0 (k + 2) a0 (nums acc) (pos L (c :: t)) = reveilleref5_Quote.j1 (k + 1) a0 (nums acc) (pos L (c :: t)) (c.toNat : Int) true := by
        rw [reveilleref5_Quote.l0, if_pos g1, if_pos g2, g3]
        rcases hq with rfl | rfl
        · rw [if_pos (by decide)]; rfl
        · rw [if_neg (by decide)]; rfl
      have e2 : nums acc ++ [92, (c.toNat : Int)] = nums (acc ++ [92, c]) := by simp [nums]
      rw [e, reveilleref5_Quote.j1, if_pos rfl, if_pos g2, if_pos g1, g3, Option.bind_some, if_pos (by rw [nums_len]; simp; omega), g4, e2, h, eq]
      simp
    · have n34 : ¬ ((c.toNat : Int) = 34) := by rw [u34]; exact fun e => hq (.inl e)
      have n92 : (((c.toNat : Int)) == 92) = false := by rw [beq_eq_false_iff_ne]; intro h; rw [u92] at h; exact hq (.inr h)
      by_cases h10 : c = 10
      · have eq : quo c = [92, 110] := by unfold quo; rw [if_neg hq, if_pos h10]
        have e10 : (c.toNat : Int) = 10 := by rw [u10]; exact h10
        obtain ⟨k, h⟩ := ih (acc ++ [92, 110]) hs2 (by simp; omega)
        refine ⟨k + 2, ?_⟩
        have e2 : nums acc ++ [92, 110] = nums (acc ++ [92, 110]) := by simp [nums]
        rw [reveilleref5_Quote.l0, if_pos g1, if_pos g2, g3, if_neg n34, n92, reveilleref5_Quote.j1, if_neg (by decide), if_pos e10, Option.bind_some, if_pos (by rw [nums_len]; simp; omega), g4, e2, h, eq]
        simp
      · have eq : quo c = [c] := by unfold quo; rw [if_neg hq, if_neg h10]
        have e10 : ¬ (c.toNat : Int) = 10 := by rw [u10]; exact h10
        obtain ⟨k, h⟩ := ih (acc ++ [c]) hs2 (by simp; omega)
        refine ⟨k + 2, ?_⟩
        rw [reveilleref5_Quote.l0, if_pos g1, if_pos g2, g3, if_neg n34, n92, reveilleref5_Quote.j1, if_neg (by decide), if_neg e10, if_pos g2, if_pos g1, if_pos (by rw [nums_len]; omega), g3, g4, nums_app, h, eq]
        simp
end
theorem spl_len : ∀ (n : Nat) t x4, (spl n t x4).1.length ≤ x4.length + t.length := by
  intro n
  induction n with
  | zero => intro t x4; simp [spl]
  | succ n ih =>
    intro t x4
    have hle : (t.dropWhile blank).length ≤ t.length := (List.dropWhile_suffix _).length_le
    rw [spl]
    cases hu : t.dropWhile blank with
    | nil => simp
    | cons c u =>
      rw [hu] at hle
      simp only [List.length_cons] at hle
      simp only
      split
      · split
        · simp
        · rename_i w hun
          obtain ⟨_, h2⟩ := unq_suffix c _ u [] w [] (Nat.le_refl _) hun
          have := ih [] (x4 ++ [ba w])
          simp at this h2
          omega
        · rename_i w d r hun
          obtain ⟨_, h2⟩ := unq_suffix c _ u [] w (d :: r) (Nat.le_refl _) hun
          split
          · have := ih (d :: r) (x4 ++ [ba w])
            simp at this h2
            omega
          · simp
      · have hcb : blank c = false := by
          have := List.head?_dropWhile_not blank t
          rw [hu] at this
          simpa using this
        have h1 := ih ((c :: u).dropWhile fun x => !blank x) (x4 ++ [ba ((c :: u).takeWhile fun x => !blank x)])
        have h2 : ((c :: u).dropWhile fun x => !blank x).length ≤ u.length := by
          rw [List.dropWhile_cons_of_pos (p := fun x => !blank x) (by rw [hcb]; rfl)]
          exact (List.dropWhile_suffix (l := u) (fun x => !blank x)).length_le
        rw [List.length_append, List.length_singleton] at h1
        omega
theorem pure_law (a0 : ByteArray) : ∃ k, reveillelaw5_LineSplits.f k a0 = some true := by
  by_cases hbig : (a0.size : Int) > 2000
  · refine ⟨0, ?_⟩
    unfold reveillelaw5_LineSplits.f reveillelaw5_known.f
    rw [Option.bind_some, if_pos rfl, if_pos hbig]
  · obtain ⟨L, hL⟩ : ∃ L, a0.data.toList = L := ⟨_, rfl⟩
    have hs := sz hL
    have hn : L.length ≤ 5000 := by omega
    have ea : a0 = ba L := by rw [← hL, ba_of]
    obtain ⟨k1, h1⟩ := line_l0 (L.length + 1) L [] (by omega) (by simp; omega)
    obtain ⟨k2, h2⟩ := ref_l0 hL hn (L.length + 1) L [] (List.suffix_refl L) (by omega) (by simp; omega)
    obtain ⟨k3, h3⟩ := texts_same (spl (L.length + 1) L []).1 (by have := spl_len (L.length + 1) L []; simp at this; omega)
    obtain ⟨k4, h4⟩ := quote_l0 hL hn L [34] (List.suffix_refl L) (by simp; omega)
    have p0 : pos L L = 0 := by unfold pos; omega
    rw [p0] at h2 h4
    have hq := quote_line L hn
    rw [← ea] at h1 hq
    obtain ⟨K, b1, b2, b3, b4⟩ : ∃ K, k1 ≤ K ∧ k2 ≤ K ∧ k3 ≤ K ∧ k4 ≤ K := ⟨k1 + k2 + k3 + k4, by omega, by omega, by omega, by omega⟩
    have f1 : line_Split.f K a0 = some (spl (L.length + 1) L []) := leO_le (f := fun k => line_Split.f k a0) (fun k => line_Split.mono a0 k) b1 _ h1
    have f2 : reveilleref5_Split.f K a0 = some (spl (L.length + 1) L []) := leO_le (f := fun k => reveilleref5_Split.f k a0) (fun k => reveilleref5_Split.mono a0 k) b2 _ h2
    have f3 := leO_le (f := fun k => reveillehelp_Texts.f k (spl (L.length + 1) L []).1 (spl (L.length + 1) L []).1) (fun k => reveillehelp_Texts.mono _ _ k) b3 _ h3
    have f4 : reveilleref5_Quote.f K a0 = some (ba ([34] ++ (L.flatMap quo ++ [34]))) := leO_le (f := fun k => reveilleref5_Quote.f k a0) (fun k => reveilleref5_Quote.mono a0 k) b4 _ h4
    refine ⟨K, ?_⟩
    unfold reveillelaw5_LineSplits.f reveillelaw5_known.f
    rw [Option.bind_some, if_pos rfl, if_neg hbig, f1, Option.bind_some, f2, Option.bind_some]
    have f3' : reveillehelp_Texts.f K (spl (L.length + 1) L []).1 (spl (L.length + 1) L []).1 = some true := f3
    rw [f3', Option.bind_some, if_pos rfl, if_pos rfl, hq, Option.bind_some, f4, Option.bind_some]
    simp
theorem law_calls (a0 : ByteArray) (w : World) (hs : w.ShapedOpen Tryd.prog) :
    Calls Tryd.prog 7 #[.string a0] w fun e w' => e = .returned (.bool true) ∧ Below w.heap.size w w' := by
  obtain ⟨k, h⟩ := pure_law a0
  exact reveillelaw5_LineSplits.calls k a0 true w h ⟨w, hs, Below.refl _ _⟩
end Go.Proofs.YtaihipdebmcmhaaDoor.Splits
