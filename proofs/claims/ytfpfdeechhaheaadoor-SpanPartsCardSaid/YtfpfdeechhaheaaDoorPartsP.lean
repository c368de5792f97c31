/- The plain law of SpanParts: a text of parts is read as their sum. -/
import Derived.Test.YtfpfdeechhaheaaDoorPartsF1
import Derived.Test.YtfpfdeechhaheaaDoorPartsB
import Derived.Lib.LazyBuf
namespace Go.Proofs.YtfpfdeechhaheaaDoor.Reads
open Go.RowKit Go.Proofs.YtfpfdeechhaheaaDoorW.PrintWords Go.Proofs.YtfpfdeechhaheaaDoorW.PrintLast
set_option linter.unusedVariables false
set_option linter.unusedSectionVars false
set_option linter.unusedSimpArgs false
theorem ba_append (a b : List UInt8) : ba a ++ ba b = ba (a ++ b) := by
  apply ByteArray.ext
  apply Array.ext'
  simp [ba, ByteArray.data_append]
/-! ### a number's digits -/
def dig1 (u : Nat) : UInt8 := UInt8.ofNat (48 + u % 10)
def dec : Nat → Nat → List UInt8
  | 0, _ => []
  | m + 1, u => if u < 10 then [dig1 u] else dec m (u / 10) ++ [dig1 u]
theorem dig1_nat (u : Nat) : (dig1 u).toNat = 48 + u % 10 := by
  unfold dig1
  rw [UInt8.toNat_ofNat']
  omega
theorem dig1_is (u : Nat) : isdig (dig1 u) = true := by
  unfold isdig
  rw [decide_eq_true_eq, dig1_nat]
  omega
theorem dec_ok : ∀ (m u : Nat), u < 10 ^ m → 0 < m → (dec m u) ≠ [] ∧ (dec m u).length ≤ m ∧ digits (dec m u) = true ∧ numOf 0 (dec m u) = u := by
  intro m
  induction m with
  | zero => intro u _ h; exact absurd h (by omega)
  | succ m ih =>
    intro u hu _
    unfold dec
    by_cases h : u < 10
    · rw [if_pos h]
      refine ⟨by simp, by simp, ?_, ?_⟩
      · unfold digits
        have := dig1_is u
        unfold isdig at this
        rw [List.all_cons, this]; rfl
      · show 0 * 10 + ((dig1 u).toNat - 48) = u
        rw [dig1_nat]; omega
    · rw [if_neg h]
      have hm : 0 < m := by
        cases m with
        | zero => exfalso; simp at hu; omega
        | succ m => omega
      obtain ⟨h1, h2, h3, h4⟩ := ih (u / 10) (by rw [Nat.pow_succ] at hu; omega) hm
      refine ⟨by simp, by simp; omega, ?_, ?_⟩
      · unfold digits at h3 ⊢
        have := dig1_is u
        unfold isdig at this
        rw [List.all_append, h3, List.all_cons, this]; rfl
      · unfold numOf at h4 ⊢
        rw [List.foldl_append, h4]
        show u / 10 * 10 + ((dig1 u).toNat - 48) = u
        rw [dig1_nat]; omega
theorem strOf_one (u : Nat) : strOfNums [(IntKind.u64.wrap (48 + (Int.tmod (u : Int) 10))) % 256] = ba [dig1 u] := by
  have e : (IntKind.u64.wrap (48 + (Int.tmod (u : Int) 10))) % 256 = (((dig1 u).toNat : Nat) : Int) := by
    rw [dig1_nat, Int.tmod_eq_emod_of_nonneg (by omega), u64_mod]
    omega
  rw [e]
  exact Go.Lib.Lz.strOfNums_map [dig1 u]
theorem digits_l0 : ∀ (m u : Nat) (x0 : Int) (acc : List UInt8), u < 10 ^ m → 0 < m → m ≤ 18 → 0 ≤ x0 → acc.length + m ≤ 1000 → EvS (fun k => reveilleref1_Digits.l0 k x0 (u : Int) (ba acc)) (ba (dec m u ++ acc)) := by
  intro m
  induction m with
  | zero => intro u _ _ _ h; exact absurd h (by omega)
  | succ m ih =>
    intro u x0 acc hu _ h18 hx ha
    have hpow : 10 ^ (m + 1) ≤ 10 ^ 18 := Nat.pow_le_pow_right (by decide) h18
    have hq : IntKind.u64.wrap (Int.tdiv (u : Int) 10) = ((u / 10 : Nat) : Int) := by
      rw [Int.tdiv_eq_ediv_of_nonneg (by omega), u64_small _ (by omega) (by omega)]; rfl
    have hs : ((strOfNums [(IntKind.u64.wrap (48 + (Int.tmod (u : Int) 10))) % 256]).size + (ba acc).size) ≤ 9223372036854775807 := by
      rw [strOf_one, ba_size, ba_size]; simp; omega
    unfold dec
    by_cases h : u < 10
    · rw [if_pos h]
      refine EvS.pure fun k => ?_
      rw [reveilleref1_Digits.l0, Option.bind_some, if_pos hs, hq, if_pos (by omega), if_neg (by omega), strOf_one, ba_append]
    · rw [if_neg h]
      have hm : 0 < m := by
        cases m with
        | zero => exfalso; simp at hu; omega
        | succ m => omega
      have := ih (u / 10) x0 (dig1 u :: acc) (by rw [Nat.pow_succ] at hu; omega) hm (by omega) hx (by simp; omega)
      rw [List.append_assoc]
      refine EvS.step this fun k => ?_
      rw [reveilleref1_Digits.l0, Option.bind_some, if_pos hs, hq, if_neg (by omega), strOf_one, ba_append]
      rfl
theorem digits_ev (m u : Nat) (hu : u < 10 ^ m) (hm : 0 < m) (h18 : m ≤ 18) : EvS (fun k => reveilleref1_Digits.f k (u : Int)) (ba (dec m u)) := by
  have hpow : 10 ^ m ≤ 10 ^ 18 := Nat.pow_le_pow_right (by decide) h18
  have h := digits_l0 m u (u : Int) [] hu hm h18 (by omega) (by simp; omega)
  rw [List.append_nil] at h
  refine EvS.eqn (EvS.step h (f := fun k => reveilleref1_Digits.j0 k (u : Int) (u : Int)) fun k => ?_) fun k => ?_
  · rw [reveilleref1_Digits.j0]; rfl
  · rw [reveilleref1_Digits.f, if_neg (by omega), u64_small _ (by omega) (by omega)]
/-! ### pieces -/
structure Pc where
  b1 : List UInt8
  ds : List UInt8
  b2 : List UInt8
  nm : List UInt8
  b3 : List UInt8
  sc : Int
def names8 : List (List UInt8 × Int) := [([115], 1), ([115, 101, 99], 1), ([109], 60), ([109, 105, 110], 60), ([104], 3600), ([104, 114], 3600), ([100], 86400), ([119], 604800)]
def blank (l : List UInt8) : Prop := l = [] ∨ l = [32] ∨ l = [32, 32, 32]
structure Pc.Ok (p : Pc) : Prop where
  b1 : blank p.b1
  b2 : blank p.b2
  b3 : blank p.b3
  ne : p.ds ≠ []
  len : p.ds.length ≤ 5
  dig : digits p.ds = true
  num : numOf 0 p.ds ≤ 65535
  mem : (p.nm, p.sc) ∈ names8
def Pc.v (p : Pc) : Int := (numOf 0 p.ds : Nat) * p.sc
def Pc.tail (p : Pc) (t : List UInt8) : List UInt8 := p.ds ++ (p.b2 ++ (p.nm ++ (p.b3 ++ t)))
def txt : List Pc → List UInt8
  | [] => []
  | p :: l => p.b1 ++ p.tail (txt l)
def total : List Pc → Int
  | [] => 0
  | p :: l => p.v + total l
theorem d32_blank {b : List UInt8} (h : blank b) (t : List UInt8) : d32 (b ++ t) = d32 t := by
  rcases h with rfl | rfl | rfl <;> rfl
theorem sc_range {p : Pc} (h : p.Ok) : 0 < p.sc ∧ p.sc ≤ 604800 ∧ p.nm.length ≤ 3 := by
  have := h.mem
  unfold names8 at this
  simp at this
  rcases this with h | h | h | h | h | h | h | h <;> (obtain ⟨h1, h2⟩ := h; rw [h1, h2]; decide)
theorem v_range {p : Pc} (h : p.Ok) : 0 ≤ p.v ∧ p.v ≤ 39635568000 := by
  have h1 := sc_range h
  have h2 := h.num
  unfold Pc.v
  have a0 : (0 : Int) ≤ (numOf 0 p.ds : Nat) := by omega
  have := Int.mul_nonneg a0 (by omega : 0 ≤ p.sc)
  have h3 : ((numOf 0 p.ds : Nat) : Int) * p.sc ≤ 65535 * 604800 := Int.mul_le_mul (by omega) h1.2.1 (by omega) (by decide)
  omega
/-- what stands behind a unit is no letter -/
def Free (t : List UInt8) : Prop := t = [] ∨ ∃ c r, t = c :: r ∧ c.toNat ≤ 57
theorem isdig_le {c : UInt8} (h : isdig c = true) : c.toNat ≤ 57 := (of_decide_eq_true h).2
theorem digits_head {c : UInt8} {l : List UInt8} (h : digits (c :: l) = true) : isdig c = true ∧ digits l = true := by
  unfold digits at h ⊢
  rw [List.all_cons, Bool.and_eq_true] at h
  exact h
theorem tail_head {p : Pc} (h : p.Ok) (t : List UInt8) : ∃ c r, p.tail t = c :: r ∧ isdig c = true := by
  have h1 := h.ne
  have h2 := h.dig
  unfold Pc.tail
  cases hd : p.ds with
  | nil => exact absurd hd h1
  | cons c r => rw [hd] at h2; exact ⟨c, _, rfl, (digits_head h2).1⟩
theorem free_blank {b t : List UInt8} (h : blank b) (ht : Free t) : Free (b ++ t) := by
  rcases h with rfl | rfl | rfl
  · exact ht
  · exact .inr ⟨32, t, rfl, by decide⟩
  · exact .inr ⟨32, _, rfl, by decide⟩
theorem free_txt : ∀ l : List Pc, (∀ p ∈ l, p.Ok) → Free (txt l) := by
  intro l h
  cases l with
  | nil => exact .inl rfl
  | cons p l =>
    have hp := h p (List.mem_cons_self ..)
    obtain ⟨c, r, e, hd⟩ := tail_head hp (txt l)
    exact free_blank hp.b1 (.inr ⟨c, r, e, isdig_le hd⟩)
theorem fu_name (nm : List UInt8) (sc : Int) (h : (nm, sc) ∈ names8) (t : List UInt8) (ht : Free t) : fu unitNames (nm ++ t) = some (sc, nm.length) := by
  unfold names8 at h
  simp at h
  rcases ht with rfl | ⟨c, r, rfl, hc⟩
  · rw [List.append_nil]
    rcases h with h | h | h | h | h | h | h | h <;> (obtain ⟨h1, h2⟩ := h; subst h1; subst h2; rfl)
  · have e1 : ((101 : UInt8) == c) = false := by rw [beq_eq_false_iff_ne]; rintro rfl; exact absurd hc (by decide)
    have e2 : ((105 : UInt8) == c) = false := by rw [beq_eq_false_iff_ne]; rintro rfl; exact absurd hc (by decide)
    have e3 : ((114 : UInt8) == c) = false := by rw [beq_eq_false_iff_ne]; rintro rfl; exact absurd hc (by decide)
    rcases h with h | h | h | h | h | h | h | h <;> (obtain ⟨h1, h2⟩ := h; subst h1; subst h2; simp [fu, unitNames, List.find?, List.isPrefixOf, e1, e2, e3])
theorem dig_split : ∀ (ds t : List UInt8), digits ds = true → (t = [] ∨ ∃ c r, t = c :: r ∧ isdig c = false) → (ds ++ t).takeWhile isdig = ds ∧ (ds ++ t).dropWhile isdig = t := by
  intro ds
  induction ds with
  | nil =>
    intro t _ h
    rcases h with rfl | ⟨c, r, rfl, h⟩
    · exact ⟨rfl, rfl⟩
    · have h : ¬ isdig c = true := by rw [h]; decide
      exact ⟨List.takeWhile_cons_of_neg h, List.dropWhile_cons_of_neg h⟩
  | cons d ds ih =>
    intro t hd h
    obtain ⟨h1, h2⟩ := digits_head hd
    obtain ⟨i1, i2⟩ := ih t h2 h
    rw [List.cons_append, List.takeWhile_cons_of_pos h1, List.dropWhile_cons_of_pos h1, i1, i2]
    exact ⟨rfl, rfl⟩
theorem name_head {nm : List UInt8} {sc : Int} (h : (nm, sc) ∈ names8) (t : List UInt8) : (∃ c r, nm ++ t = c :: r ∧ isdig c = false) ∧ d32 (nm ++ t) = nm ++ t := by
  unfold names8 at h
  simp at h
  rcases h with h | h | h | h | h | h | h | h <;> (obtain ⟨h1, h2⟩ := h; subst h1; exact ⟨⟨_, _, rfl, by decide⟩, rfl⟩)
theorem part_piece {p : Pc} (h : p.Ok) (t : List UInt8) (ht : Free t) : part (p.tail t) = some (p.v, d32 t) := by
  have hb : p.b2 ++ (p.nm ++ (p.b3 ++ t)) = [] ∨ ∃ c r, p.b2 ++ (p.nm ++ (p.b3 ++ t)) = c :: r ∧ isdig c = false := by
    refine .inr ?_
    rcases h.b2 with e | e | e <;> rw [e]
    · exact (name_head h.mem _).1
    · exact ⟨_, _, rfl, by decide⟩
    · exact ⟨_, _, rfl, by decide⟩
  obtain ⟨s1, s2⟩ := dig_split p.ds _ h.dig hb
  have hl := h.len
  have hn : p.ds.length ≠ 0 := fun e => h.ne (List.length_eq_zero_iff.1 e)
  have hv := v_range h
  unfold part
  rw [show p.tail t = p.ds ++ (p.b2 ++ (p.nm ++ (p.b3 ++ t))) from rfl, s1, s2, if_neg (by omega), d32_blank h.b2, (name_head h.mem _).2, fu_name _ _ h.mem _ (free_blank h.b3 ht)]
  simp only []
  rw [List.drop_left, d32_blank h.b3]
  congr 2
  unfold tv
  unfold Pc.v at hv ⊢
  rw [if_neg (by omega)]
theorem d32_txt {p : Pc} (h : p.Ok) (l : List Pc) : d32 (txt (p :: l)) = p.tail (txt l) := by
  show d32 (p.b1 ++ p.tail (txt l)) = _
  rw [d32_blank h.b1]
  obtain ⟨c, r, e, hd⟩ := tail_head h (txt l)
  rw [e]
  refine List.dropWhile_cons_of_neg ?_
  have : c ≠ 32 := by rintro rfl; exact absurd hd (by decide)
  simpa using this
theorem sum_txt : ∀ (l : List Pc) (p : Pc) (n : Nat) (acc : Int), (∀ q ∈ p :: l, q.Ok) → l.length ≤ 100 → (d32 (txt (p :: l))).length ≤ n → 0 ≤ acc → acc + (l.length + 1) * 39635568000 ≤ 9000000000000000000 →
    sum (n + 1) (d32 (txt (p :: l))) acc = (acc + total (p :: l), 0) := by
  intro l
  induction l with
  | nil =>
    intro p n acc h _ hn h0 hb
    have hp := h p (List.mem_cons_self ..)
    have hv := v_range hp
    rw [d32_txt hp, sum, show part (p.tail (txt [])) = _ from part_piece hp [] (.inl rfl)]
    show (tv (acc + p.v), 0) = (acc + (p.v + 0), 0)
    unfold tv
    rw [if_neg (by simp at hb; omega), Int.add_zero]
  | cons q l ih =>
    intro p n acc h hl hn h0 hb
    have hp := h p (List.mem_cons_self ..)
    have hq := h q (List.mem_cons_of_mem _ (List.mem_cons_self ..))
    have hv := v_range hp
    have hpt := part_piece hp (txt (q :: l)) (free_txt _ (fun x hx => h x (List.mem_cons_of_mem _ hx)))
    have hsh := part_shorter hpt
    have e1 := d32_txt hp (q :: l)
    have e2 := d32_txt hq l
    obtain ⟨c, r, e, _⟩ := tail_head hq (txt l)
    rw [e1] at hn ⊢
    rw [sum, hpt]
    have e3 : d32 (txt (q :: l)) = c :: r := e2.trans e
    rw [List.length_cons] at hb hl
    obtain ⟨m, rfl⟩ : ∃ m, n = m + 1 := ⟨n - 1, by omega⟩
    have := ih q m (acc + p.v) (fun x hx => h x (List.mem_cons_of_mem _ hx)) (by omega) (by omega) (by omega) (by push_cast at hb; omega)
    have etv : tv (acc + p.v) = acc + p.v := by
      unfold tv
      rw [if_neg (by push_cast at hb; omega)]
    rw [e3] at this ⊢
    simp only []
    rw [etv, this]
    show (acc + p.v + (q.v + total l), 0) = (acc + (p.v + (q.v + total l)), 0)
    rw [Int.add_assoc]
theorem reads_txt (l : List Pc) (p : Pc) (h : ∀ q ∈ p :: l, q.Ok) (hl : l.length ≤ 100) : reads (txt (p :: l)) = (total (p :: l), 0) := by
  have hp := h p (List.mem_cons_self ..)
  unfold reads
  have hi : txt (p :: l) ≠ infinity := by
    obtain ⟨c, r, e, hd⟩ := tail_head hp (txt l)
    show p.b1 ++ p.tail (txt l) ≠ _
    rw [e]
    unfold infinity
    have : c ≠ 105 := by rintro rfl; exact absurd hd (by decide)
    rcases hp.b1 with e | e | e <;> rw [e] <;> simp [this]
  rw [if_neg hi, sum_txt l p _ 0 h hl (Nat.le_refl _) (by decide) (by omega)]
  rw [Int.zero_add]
end Go.Proofs.YtfpfdeechhaheaaDoor.Reads
