/- The plain law of SpanBack: a text of parts is read as their sum. -/
import Derived.Test.YtfpfdeechhaheaaDoorBackF2
import Derived.Test.YtfpfdeechhaheaaDoorBackB
import Derived.Lib.Join
namespace Go.Proofs.YtfpfdeechhaheaaDoor.Reads
open Go.RowKit Go.Proofs.YtfpfdeechhaheaaDoorW.PrintWords Go.Proofs.YtfpfdeechhaheaaDoorW.PrintLast
set_option linter.unusedVariables false
set_option linter.unusedSectionVars false
set_option linter.unusedSimpArgs false
theorem ba_append (a b : List UInt8) : ba a ++ ba b = ba (a ++ b) := by
  apply ByteArray.ext
  apply Array.ext'
  simp [ba, ByteArray.data_append]
/-! ### a number's digits -/
def dig1 (u : Nat) : UInt8 := UInt8.ofNat (48 + u % 10)
def dec : Nat → Nat → List UInt8
  | 0, _ => []
  | m + 1, u => if u < 10 then [dig1 u] else dec m (u / 10) ++ [dig1 u]
theorem dig1_nat (u : Nat) : (dig1 u).toNat = 48 + u % 10 := by
  unfold dig1
  rw [UInt8.toNat_ofNat']
  omega
theorem dig1_is (u : Nat) : isdig (dig1 u) = true := by
  unfold isdig
  rw [decide_eq_true_eq, dig1_nat]
  omega
theorem dec_ok : ∀ (m u : Nat), u < 10 ^ m → 0 < m → (dec m u) ≠ [] ∧ (dec m u).length ≤ m ∧ digits (dec m u) = true ∧ numOf 0 (dec m u) = u := by
  intro m
  induction m with
  | zero => intro u _ h; exact absurd h (by omega)
  | succ m ih =>
    intro u hu _
    unfold dec
    by_cases h : u < 10
    · rw [if_pos h]
      refine ⟨by simp, by simp, ?_, ?_⟩
      · unfold digits
        have := dig1_is u
        unfold isdig at this
        rw [List.all_cons, this]; rfl
      · show 0 * 10 + ((dig1 u).toNat - 48) = u
        rw [dig1_nat]; omega
    · rw [if_neg h]
      have hm : 0 < m := by
        cases m with
        | zero => exfalso; simp at hu; omega
        | succ m => omega
      obtain ⟨h1, h2, h3, h4⟩ := ih (u / 10) (by rw [Nat.pow_succ] at hu; omega) hm
      refine ⟨by simp, by simp; omega, ?_, ?_⟩
      · unfold digits at h3 ⊢
        have := dig1_is u
        unfold isdig at this
        rw [List.all_append, h3, List.all_cons, this]; rfl
      · unfold numOf at h4 ⊢
        rw [List.foldl_append, h4]
        show u / 10 * 10 + ((dig1 u).toNat - 48) = u
        rw [dig1_nat]; omega
/-! ### pieces -/
structure Pc where
  b1 : List UInt8
  ds : List UInt8
  b2 : List UInt8
  nm : List UInt8
  b3 : List UInt8
  sc : Int
def names8 : List (List UInt8 × Int) := [([115], 1), ([115, 101, 99], 1), ([109], 60), ([109, 105, 110], 60), ([104], 3600), ([104, 114], 3600), ([100], 86400), ([119], 604800)]
def blank (l : List UInt8) : Prop := l = [] ∨ l = [32] ∨ l = [32, 32, 32]
structure Pc.Ok (p : Pc) : Prop where
  b1 : blank p.b1
  b2 : blank p.b2
  b3 : blank p.b3
  ne : p.ds ≠ []
  len : p.ds.length ≤ 18
  dig : digits p.ds = true
  mem : (p.nm, p.sc) ∈ names8
def Pc.v (p : Pc) : Int := (numOf 0 p.ds : Nat) * p.sc
def Pc.tail (p : Pc) (t : List UInt8) : List UInt8 := p.ds ++ (p.b2 ++ (p.nm ++ (p.b3 ++ t)))
def txt : List Pc → List UInt8
  | [] => []
  | p :: l => p.b1 ++ p.tail (txt l)
def total : List Pc → Int
  | [] => 0
  | p :: l => p.v + total l
theorem d32_blank {b : List UInt8} (h : blank b) (t : List UInt8) : d32 (b ++ t) = d32 t := by
  rcases h with rfl | rfl | rfl <;> rfl
theorem sc_range {p : Pc} (h : p.Ok) : 0 < p.sc ∧ p.sc ≤ 604800 ∧ p.nm.length ≤ 3 := by
  have := h.mem
  unfold names8 at this
  simp at this
  rcases this with h | h | h | h | h | h | h | h <;> (obtain ⟨h1, h2⟩ := h; rw [h1, h2]; decide)
theorem v_nonneg {p : Pc} (h : p.Ok) : 0 ≤ p.v := by
  have h1 := sc_range h
  unfold Pc.v
  exact Int.mul_nonneg (by omega) (by omega)
theorem total_nonneg : ∀ l : List Pc, (∀ p ∈ l, p.Ok) → 0 ≤ total l := by
  intro l
  induction l with
  | nil => intro _; exact Int.le_refl _
  | cons p l ih =>
    intro h
    have h1 := v_nonneg (h p (List.mem_cons_self ..))
    have h2 := ih (fun q hq => h q (List.mem_cons_of_mem _ hq))
    show 0 ≤ p.v + total l
    omega
/-- what stands behind a unit is no letter -/
def Free (t : List UInt8) : Prop := t = [] ∨ ∃ c r, t = c :: r ∧ c.toNat ≤ 57
theorem isdig_le {c : UInt8} (h : isdig c = true) : c.toNat ≤ 57 := (of_decide_eq_true h).2
theorem digits_head {c : UInt8} {l : List UInt8} (h : digits (c :: l) = true) : isdig c = true ∧ digits l = true := by
  unfold digits at h ⊢
  rw [List.all_cons, Bool.and_eq_true] at h
  exact h
theorem tail_head {p : Pc} (h : p.Ok) (t : List UInt8) : ∃ c r, p.tail t = c :: r ∧ isdig c = true := by
  have h1 := h.ne
  have h2 := h.dig
  unfold Pc.tail
  cases hd : p.ds with
  | nil => exact absurd hd h1
  | cons c r => rw [hd] at h2; exact ⟨c, _, rfl, (digits_head h2).1⟩
theorem free_blank {b t : List UInt8} (h : blank b) (ht : Free t) : Free (b ++ t) := by
  rcases h with rfl | rfl | rfl
  · exact ht
  · exact .inr ⟨32, t, rfl, by decide⟩
  · exact .inr ⟨32, _, rfl, by decide⟩
theorem free_txt : ∀ l : List Pc, (∀ p ∈ l, p.Ok) → Free (txt l) := by
  intro l h
  cases l with
  | nil => exact .inl rfl
  | cons p l =>
    have hp := h p (List.mem_cons_self ..)
    obtain ⟨c, r, e, hd⟩ := tail_head hp (txt l)
    exact free_blank hp.b1 (.inr ⟨c, r, e, isdig_le hd⟩)
theorem fu_name (nm : List UInt8) (sc : Int) (h : (nm, sc) ∈ names8) (t : List UInt8) (ht : Free t) : fu unitNames (nm ++ t) = some (sc, nm.length) := by
  unfold names8 at h
  simp at h
  rcases ht with rfl | ⟨c, r, rfl, hc⟩
  · rw [List.append_nil]
    rcases h with h | h | h | h | h | h | h | h <;> (obtain ⟨h1, h2⟩ := h; subst h1; subst h2; rfl)
  · have e1 : ((101 : UInt8) == c) = false := by rw [beq_eq_false_iff_ne]; rintro rfl; exact absurd hc (by decide)
    have e2 : ((105 : UInt8) == c) = false := by rw [beq_eq_false_iff_ne]; rintro rfl; exact absurd hc (by decide)
    have e3 : ((114 : UInt8) == c) = false := by rw [beq_eq_false_iff_ne]; rintro rfl; exact absurd hc (by decide)
    rcases h with h | h | h | h | h | h | h | h <;> (obtain ⟨h1, h2⟩ := h; subst h1; subst h2; simp [fu, unitNames, List.find?, List.isPrefixOf, e1, e2, e3])
theorem dig_split : ∀ (ds t : List UInt8), digits ds = true → (t = [] ∨ ∃ c r, t = c :: r ∧ isdig c = false) → (ds ++ t).takeWhile isdig = ds ∧ (ds ++ t).dropWhile isdig = t := by
  intro ds
  induction ds with
  | nil =>
    intro t _ h
    rcases h with rfl | ⟨c, r, rfl, h⟩
    · exact ⟨rfl, rfl⟩
    · have h : ¬ isdig c = true := by rw [h]; decide
      exact ⟨List.takeWhile_cons_of_neg h, List.dropWhile_cons_of_neg h⟩
  | cons d ds ih =>
    intro t hd h
    obtain ⟨h1, h2⟩ := digits_head hd
    obtain ⟨i1, i2⟩ := ih t h2 h
    rw [List.cons_append, List.takeWhile_cons_of_pos h1, List.dropWhile_cons_of_pos h1, i1, i2]
    exact ⟨rfl, rfl⟩
theorem name_head {nm : List UInt8} {sc : Int} (h : (nm, sc) ∈ names8) (t : List UInt8) : (∃ c r, nm ++ t = c :: r ∧ isdig c = false) ∧ d32 (nm ++ t) = nm ++ t := by
  unfold names8 at h
  simp at h
  rcases h with h | h | h | h | h | h | h | h <;> (obtain ⟨h1, h2⟩ := h; subst h1; exact ⟨⟨_, _, rfl, by decide⟩, rfl⟩)
theorem part_piece {p : Pc} (h : p.Ok) (hv : p.v ≤ 9223372036854775807) (t : List UInt8) (ht : Free t) : part (p.tail t) = some (p.v, d32 t) := by
  have hb : p.b2 ++ (p.nm ++ (p.b3 ++ t)) = [] ∨ ∃ c r, p.b2 ++ (p.nm ++ (p.b3 ++ t)) = c :: r ∧ isdig c = false := by
    refine .inr ?_
    rcases h.b2 with e | e | e <;> rw [e]
    · exact (name_head h.mem _).1
    · exact ⟨_, _, rfl, by decide⟩
    · exact ⟨_, _, rfl, by decide⟩
  obtain ⟨s1, s2⟩ := dig_split p.ds _ h.dig hb
  have hl := h.len
  have hn : p.ds.length ≠ 0 := fun e => h.ne (List.length_eq_zero_iff.1 e)
  unfold part
  rw [show p.tail t = p.ds ++ (p.b2 ++ (p.nm ++ (p.b3 ++ t))) from rfl, s1, s2, if_neg (by omega), d32_blank h.b2, (name_head h.mem _).2, fu_name _ _ h.mem _ (free_blank h.b3 ht)]
  simp only []
  rw [List.drop_left, d32_blank h.b3]
  congr 2
  unfold tv
  unfold Pc.v at hv ⊢
  rw [if_neg (by omega)]
theorem d32_txt {p : Pc} (h : p.Ok) (l : List Pc) : d32 (txt (p :: l)) = p.tail (txt l) := by
  show d32 (p.b1 ++ p.tail (txt l)) = _
  rw [d32_blank h.b1]
  obtain ⟨c, r, e, hd⟩ := tail_head h (txt l)
  rw [e]
  refine List.dropWhile_cons_of_neg ?_
  have : c ≠ 32 := by rintro rfl; exact absurd hd (by decide)
  simpa using this
theorem sum_txt : ∀ (l : List Pc) (p : Pc) (n : Nat) (acc : Int), (∀ q ∈ p :: l, q.Ok) → (d32 (txt (p :: l))).length ≤ n → 0 ≤ acc → acc + total (p :: l) ≤ 9223372036854775807 →
    sum (n + 1) (d32 (txt (p :: l))) acc = (acc + total (p :: l), 0) := by
  intro l
  induction l with
  | nil =>
    intro p n acc h hn h0 hb
    have hp := h p (List.mem_cons_self ..)
    have hv := v_nonneg hp
    have hb : acc + (p.v + 0) ≤ 9223372036854775807 := hb
    rw [d32_txt hp, sum, show part (p.tail (txt [])) = _ from part_piece hp (by omega) [] (.inl rfl)]
    show (tv (acc + p.v), 0) = (acc + (p.v + 0), 0)
    unfold tv
    rw [if_neg (by omega), Int.add_zero]
  | cons q l ih =>
    intro p n acc h hn h0 hb
    have hp := h p (List.mem_cons_self ..)
    have hq := h q (List.mem_cons_of_mem _ (List.mem_cons_self ..))
    have hv := v_nonneg hp
    have hr := total_nonneg (q :: l) (fun x hx => h x (List.mem_cons_of_mem _ hx))
    have hb : acc + (p.v + total (q :: l)) ≤ 9223372036854775807 := hb
    have hpt := part_piece hp (by omega) (txt (q :: l)) (free_txt _ (fun x hx => h x (List.mem_cons_of_mem _ hx)))
    have hsh := part_shorter hpt
    have e1 := d32_txt hp (q :: l)
    have e2 := d32_txt hq l
    obtain ⟨c, r, e, _⟩ := tail_head hq (txt l)
    rw [e1] at hn ⊢
    rw [sum, hpt]
    have e3 : d32 (txt (q :: l)) = c :: r := e2.trans e
    obtain ⟨m, rfl⟩ : ∃ m, n = m + 1 := ⟨n - 1, by omega⟩
    have := ih q m (acc + p.v) (fun x hx => h x (List.mem_cons_of_mem _ hx)) (by omega) (by omega) (by omega)
    have etv : tv (acc + p.v) = acc + p.v := by
      unfold tv
      rw [if_neg (by omega)]
    rw [e3] at this ⊢
    simp only []
    rw [etv, this]
    show (acc + p.v + total (q :: l), 0) = (acc + (p.v + total (q :: l)), 0)
    rw [Int.add_assoc]
theorem reads_txt (l : List Pc) (p : Pc) (h : ∀ q ∈ p :: l, q.Ok) (hb : total (p :: l) ≤ 9223372036854775807) : reads (txt (p :: l)) = (total (p :: l), 0) := by
  have hp := h p (List.mem_cons_self ..)
  unfold reads
  have hi : txt (p :: l) ≠ infinity := by
    obtain ⟨c, r, e, hd⟩ := tail_head hp (txt l)
    show p.b1 ++ p.tail (txt l) ≠ _
    rw [e]
    unfold infinity
    have : c ≠ 105 := by rintro rfl; exact absurd hd (by decide)
    rcases hp.b1 with e | e | e <;> rw [e] <;> simp [this]
  rw [if_neg hi, sum_txt l p _ 0 h (Nat.le_refl _) (by decide) (by omega), Int.zero_add]
/-! ### the print -/
theorem dec_dec : ∀ (m u : Nat), u < 10 ^ m → 0 < m → dec m u = Lib.decDigits u := by
  intro m
  induction m with
  | zero => intro u _ h; exact absurd h (by omega)
  | succ m ih =>
    intro u hu _
    unfold dec
    rw [Lib.decDigits]
    by_cases h : u < 10
    · rw [if_pos h, dif_pos h]
      unfold dig1
      rw [Nat.mod_eq_of_lt h]
    · rw [if_neg h, dif_neg h]
      have hm : 0 < m := by
        cases m with
        | zero => exfalso; simp at hu; omega
        | succ m => omega
      rw [ih (u / 10) (by rw [Nat.pow_succ] at hu; omega) hm]
      rfl
def ub : List (List UInt8 × Int) := [([119], 604800), ([100], 86400), ([104], 3600), ([109, 105, 110], 60), ([115], 1)]
/-- the parts of a number -/
def prt : List (List UInt8 × Int) → Int → List (List UInt8 × List UInt8 × Int)
  | [], _ => []
  | u :: l, n => if n / u.2 > 0 then (Lib.itoa (n / u.2), u.1, u.2) :: prt l (n % u.2) else prt l (n % u.2)
def rem (us : List (List UInt8 × Int)) (n : Int) : Int := us.foldl (fun n u => n % u.2) n
def pcs (b : List UInt8) : List (List UInt8 × List UInt8 × Int) → List Pc
  | [] => []
  | x :: l => ⟨b, x.1, [], x.2.1, [], x.2.2⟩ :: pcs [32] l
theorem txt_tail : ∀ l, txt (pcs [32] l) = Lib.joinTail [32] (l.map fun x => x.1 ++ x.2.1) := by
  intro l
  induction l with
  | nil => rfl
  | cons x l ih =>
    show [32] ++ (x.1 ++ ([] ++ (x.2.1 ++ ([] ++ txt (pcs [32] l))))) = _
    rw [ih]
    unfold Lib.joinTail
    simp [List.append_assoc]
theorem txt_join (x : List UInt8 × List UInt8 × Int) (l : List (List UInt8 × List UInt8 × Int)) : txt (pcs [] (x :: l)) = Lib.join ((x :: l).map fun x => x.1 ++ x.2.1) [32] := by
  show [] ++ (x.1 ++ ([] ++ (x.2.1 ++ ([] ++ txt (pcs [32] l))))) = _
  rw [txt_tail, List.map_cons, Lib.join_cons]
  simp [List.append_assoc]
theorem itoa_ok (n : Int) (h0 : 0 ≤ n) (h1 : n < 1000000000000000000) : Lib.itoa n ≠ [] ∧ (Lib.itoa n).length ≤ 18 ∧ digits (Lib.itoa n) = true ∧ ((numOf 0 (Lib.itoa n) : Nat) : Int) = n := by
  have e : Lib.itoa n = dec 18 n.toNat := by
    unfold Lib.itoa
    rw [if_neg (by omega), dec_dec 18 n.toNat (by omega) (by decide)]
  obtain ⟨d1, d2, d3, d4⟩ := dec_ok 18 n.toNat (by omega) (by decide)
  rw [e]
  exact ⟨d1, d2, d3, by rw [d4]; omega⟩
theorem pcs_ok : ∀ (us : List (List UInt8 × Int)) (n : Int) (b : List UInt8), (∀ u ∈ us, u ∈ names8 ∧ 0 < u.2) → blank b → 0 ≤ n → (n < 1000000000000000000 ∨ ∀ u ∈ us.head?, 604800 ≤ u.2) → n ≤ 9223372036854775807 →
    (∀ p ∈ pcs b (prt us n), p.Ok) ∧ total (pcs b (prt us n)) + rem us n = n ∧ (prt us n).length ≤ us.length ∧ (∀ x ∈ prt us n, (x.1 ++ x.2.1).length ≤ 21) := by
  intro us
  induction us with
  | nil => intro n b _ _ _ _ _; exact ⟨fun p hp => (nomatch hp), Int.zero_add _, Nat.le_refl _, fun x hx => (nomatch hx)⟩
  | cons u us ih =>
    intro n b hu hb h0 h1 hM
    obtain ⟨hm, hs⟩ := hu u (List.mem_cons_self ..)
    have hs2 : u.2 ≤ 604800 ∧ u.1.length ≤ 3 := by
      unfold names8 at hm
      simp at hm
      rcases hm with rfl | rfl | rfl | rfl | rfl | rfl | rfl | rfl <;> decide
    have r0 : 0 ≤ n % u.2 := Int.emod_nonneg _ (by omega)
    have r1 : n % u.2 < u.2 := Int.emod_lt_of_pos _ hs
    have q0 : 0 ≤ n / u.2 := Int.ediv_nonneg h0 (by omega)
    have q1 : n / u.2 < 1000000000000000000 := by
      rcases h1 with h1 | h1
      · exact Int.lt_of_le_of_lt (Int.ediv_le_self _ h0) h1
      · have := h1 u rfl
        have e : u.2 = 604800 := by omega
        rw [e]; omega
    have hdm : u.2 * (n / u.2) + n % u.2 = n := Int.mul_ediv_add_emod n u.2
    have rest : ∀ b', blank b' → _ := fun b' hb' => ih (n % u.2) b' (fun x hx => hu x (List.mem_cons_of_mem _ hx)) hb' r0 (.inl (by omega)) (by omega)
    have hrem : rem (u :: us) n = rem us (n % u.2) := rfl
    unfold prt
    by_cases c : n / u.2 > 0
    · rw [if_pos c]
      obtain ⟨i1, i2, i3, i4⟩ := itoa_ok (n / u.2) q0 q1
      obtain ⟨s1, s2, s3, s4⟩ := rest [32] (.inr (.inl rfl))
      refine ⟨fun p hp => ?_, ?_, ?_, fun x hx => ?_⟩
      · rcases List.mem_cons.1 hp with rfl | hp
        · exact ⟨hb, .inl rfl, .inl rfl, i1, i2, i3, hm⟩
        · exact s1 p hp
      · show ((numOf 0 (Lib.itoa (n / u.2)) : Nat) : Int) * u.2 + total (pcs [32] (prt us (n % u.2))) + rem (u :: us) n = n
        rw [hrem, i4, Int.mul_comm]
        omega
      · rw [List.length_cons, List.length_cons]; omega
      · rcases List.mem_cons.1 hx with rfl | hx
        · show (Lib.itoa (n / u.2) ++ u.1).length ≤ 21
          rw [List.length_append]; omega
        · exact s4 x hx
    · rw [if_neg c]
      obtain ⟨s1, s2, s3, s4⟩ := rest b hb
      have hz : n / u.2 = 0 := by omega
      rw [hz, Int.mul_zero, Int.zero_add] at hdm
      refine ⟨s1, ?_, ?_, s4⟩
      · rw [hrem]; omega
      · rw [List.length_cons]; omega
theorem joinTail_len : ∀ (l : List (List UInt8)), (∀ x ∈ l, x.length ≤ 21) → (Lib.joinTail [32] l).length ≤ 22 * l.length := by
  intro l
  induction l with
  | nil => intro _; exact Nat.le_refl _
  | cons x l ih =>
    intro h
    have h1 := h x (List.mem_cons_self ..)
    have h2 := ih (fun y hy => h y (List.mem_cons_of_mem _ hy))
    unfold Lib.joinTail at h2 ⊢
    rw [List.map_cons, List.flatten_cons, List.length_append, List.length_append, List.length_cons, List.length_cons, List.length_nil]
    omega
end Go.Proofs.YtfpfdeechhaheaaDoor.Reads
