/- The plain law of LineLong. -/
import Derived.Test.YtaihipdebmcmhaaDoorLinesF2
namespace Go.Proofs.YtaihipdebmcmhaaDoor.Lines
open Go.RowKit Go.Proofs.YtaihipdebmcmhaaDoorW.PrintWords Go.Proofs.YtaihipdebmcmhaaDoorW.PrintLast
set_option linter.unusedVariables false
set_option linter.unusedSectionVars false
set_option linter.unusedSimpArgs false
/-- rows that go on: x, then k times V -/
def chain (V : List UInt8) : List UInt8 → Nat → List (List UInt8)
  | x, 0 => [x, []]
  | x, k + 1 => (x ++ [92]) :: chain V V k
def tx (V : List UInt8) : List UInt8 → Nat → List UInt8
  | x, 0 => x ++ [10]
  | x, k + 1 => x ++ [92] ++ 10 :: tx V V k
def joined (V : List UInt8) : List UInt8 → Nat → List UInt8
  | x, 0 => x
  | x, k + 1 => x ++ [32] ++ joined V V k
theorem rowsL_row : ∀ (p t : List UInt8), (10 : UInt8) ∉ p → rowsL (p ++ 10 :: t) = p :: rowsL t := by
  intro p t h
  induction p with
  | nil => rfl
  | cons c p ih =>
    have hc : c ≠ 10 := fun e => h (by rw [e]; exact List.mem_cons_self)
    rw [List.cons_append, rowsL, if_neg hc, ih (fun e => h (List.mem_cons_of_mem _ e))]
    rfl
theorem rows_tx (V : List UInt8) (hV : (10 : UInt8) ∉ V) : ∀ (k : Nat) (x : List UInt8), (10 : UInt8) ∉ x → rowsL (tx V x k) = chain V x k := by
  intro k
  induction k with
  | zero => intro x hx; exact rowsL_row x [] hx
  | succ k ih =>
    intro x hx
    rw [tx, rowsL_row _ _ (by intro h; rcases List.mem_append.1 h with h | h; exact hx h; exact absurd h (by decide)), ih V hV]
    rfl
theorem chain_cons (V : List UInt8) (k : Nat) (x : List UInt8) : ∃ r rest, chain V x k = r :: rest ∧ rest.length = k + 1 ∧ x <+: r := by
  induction k generalizing x with
  | zero => exact ⟨x, [[]], rfl, rfl, List.prefix_refl _⟩
  | succ k ih =>
    obtain ⟨r, rest, h1, h2, _⟩ := ih V
    exact ⟨x ++ [92], chain V V k, rfl, by rw [h1, List.length_cons, h2], List.prefix_append _ _⟩
theorem no_suffix {l : List UInt8} (h : (92 : UInt8) ∉ l) : Lib.hasSuffix l [92] = false := by
  rw [Bool.eq_false_iff]
  intro e
  exact h ((List.isSuffixOf_iff_suffix.1 (show [92].isSuffixOf l = true from e)).subset List.mem_cons_self)
theorem has_suffix (l : List UInt8) : Lib.hasSuffix (l ++ [92]) [92] = true := List.isSuffixOf_iff_suffix.2 (List.suffix_append _ _)
theorem goL_end {l : List UInt8} (h : (92 : UInt8) ∉ l) (rest : List (List UInt8)) : goL l rest = (l, rest) := by
  cases rest with
  | nil => rw [goL, no_suffix h]; rfl
  | cons r rest => rw [goL, no_suffix h]; rfl
theorem goL_cont (x r : List UInt8) (rest : List (List UInt8)) : goL (x ++ [92]) (r :: rest) = goL (x ++ [32] ++ r) rest := by
  rw [goL, has_suffix, if_pos rfl]
  simp
theorem go_chain (V : List UInt8) (hV : (92 : UInt8) ∉ V) : ∀ (k : Nat) (p x r : List UInt8) (rest : List (List UInt8)), (92 : UInt8) ∉ p → (92 : UInt8) ∉ x → chain V x k = r :: rest → goL (p ++ r) rest = (p ++ joined V x k, [[]]) := by
  intro k
  induction k with
  | zero =>
    intro p x r rest hp hx h
    injection h with h1 h2
    subst h1; subst h2
    rw [goL_end (by intro h; rcases List.mem_append.1 h with h | h; exact hp h; exact hx h)]
    rfl
  | succ k ih =>
    intro p x r rest hp hx h
    injection h with h1 h2
    subst h1; subst h2
    obtain ⟨r', rest', h1, _, _⟩ := chain_cons V k V
    rw [h1, ← List.append_assoc, goL_cont, ih (p ++ x ++ [32]) V r' rest' (by intro h; rcases List.mem_append.1 h with h | h; (rcases List.mem_append.1 h with h | h; exact hp h; exact hx h); exact absurd h (by decide)) hV h1]
    simp [joined]
theorem joined_len (V : List UInt8) (q : Nat) (hq : V.length = q) : ∀ (k : Nat) (x : List UInt8), (joined V x k).length = x.length + k * (q + 1) := by
  intro k
  induction k with
  | zero => intro x; simp [joined]
  | succ k ih =>
    intro x
    rw [joined, List.length_append, List.length_append, ih V, hq, List.length_singleton, Nat.succ_mul]
    omega
theorem tx_len (V : List UInt8) (q : Nat) (hq : V.length = q) : ∀ (k : Nat) (x : List UInt8), (tx V x k).length = x.length + k * (q + 2) + 1 := by
  intro k
  induction k with
  | zero => intro x; simp [tx]
  | succ k ih =>
    intro x
    simp only [tx, List.length_append, List.length_cons, List.length_nil, ih V, hq, Nat.succ_mul]
    omega
theorem joined_pre (V : List UInt8) (k : Nat) (x : List UInt8) : x <+: joined V x k := by
  cases k with
  | zero => exact List.prefix_refl _
  | succ k => rw [joined, List.append_assoc]; exact List.prefix_append _ _
theorem trimR_pre (t : List UInt8) : ∃ t', Lib.trimRightS (107 :: 61 :: t) [32, 9] = 107 :: 61 :: t' := by
  unfold Lib.trimRightS
  have e : (107 :: 61 :: t : List UInt8).reverse = t.reverse ++ [61, 107] := by simp
  rw [e, List.dropWhile_append]
  split
  · exact ⟨[], by decide⟩
  · refine ⟨(t.reverse.dropWhile (([32, 9] : List UInt8).contains ·)).reverse, by simp⟩
theorem read_setting (t : List UInt8) (h : (107 :: 61 :: t).length ≤ 400) : (readF (107 :: 61 :: t)).err = 0 := by
  unfold readF
  rw [if_neg (by omega)]
  obtain ⟨t', ht⟩ := trimR_pre t
  have e : trm (107 :: 61 :: t) = 107 :: 61 :: t' := by
    unfold trm Lib.trimS
    rw [ht]
    rfl
  rw [e]
  have hidx : Lib.index (107 :: 61 :: t') [61] = 1 := by
    rw [Lib.index_one]
    simp [Lib.indexByte]
  have hcut : Lib.cut (107 :: 61 :: t') [61] = ([107], t', true) := by
    unfold Lib.cut
    rw [hidx]
    rfl
  unfold readT
  rw [if_neg (by simp [List.isPrefixOf]), hcut, if_pos rfl, if_pos (show keyedL (trmR [107]) = true from by decide)]
  rfl
theorem read_long {t : List UInt8} (h : 400 < t.length) : (readF t).err = 51 := by
  unfold readF
  rw [if_pos h]
  rfl
theorem lines_chain (V x : List UInt8) (k : Nat) (hV : (92 : UInt8) ∉ V) (hV2 : (10 : UInt8) ∉ V) (hx : (92 : UInt8) ∉ x) (hx2 : (10 : UInt8) ∉ x) (hp : [107, 61] <+: x) :
    (linesF ([91, 65, 93, 10] ++ tx V x k)).2 = if 400 < (joined V x k).length then (2, 51) else (0, 0) := by
  have hr : rowsL ([91, 65, 93, 10] ++ tx V x k) = [91, 65, 93] :: chain V x k := by
    rw [show ([91, 65, 93, 10] : List UInt8) ++ tx V x k = [91, 65, 93] ++ 10 :: tx V x k from rfl, rowsL_row _ _ (by decide), rows_tx V hV2 k x hx2]
  obtain ⟨r, rest, h1, h2, h3⟩ := chain_cons V k x
  have hgo := go_chain V hV k [] x r rest (by simp) hx h1
  rw [List.nil_append, List.nil_append] at hgo
  obtain ⟨t, ht⟩ := hp.trans h3
  have hidle : idleL r = false := by rw [← ht]; rfl
  obtain ⟨t2, ht2⟩ := hp.trans (joined_pre V k x)
  have hi : items (k + 3) (k + 3) ([91, 65, 93] :: r :: rest) = [(1, [91, 65, 93]), (2, joined V x k)] := by
    rw [items, if_neg (by decide), goL_end (by decide), List.length_cons, h2]
    dsimp only
    rw [items, if_neg (by rw [hidle]; decide), hgo, h2]
    dsimp only
    have e1 : k + 3 - (k + 1 + 1) = 1 := by omega
    have e2 : k + 3 - (k + 1) = 2 := by omega
    have e3 : items (k + 3) (k + 1) [[]] = [] := by
      rw [items, if_pos (by decide)]
      cases k <;> rfl
    rw [e1, e2, e3]
    rfl
  unfold linesF
  rw [hr, h1, List.length_cons, List.length_cons, h2]
  show (coll readF (items (k + 3) (k + 3) ([91, 65, 93] :: r :: rest))).2 = _
  rw [hi]
  have hA : (readF [91, 65, 93]).err = 0 := by decide
  unfold coll
  by_cases hl : 400 < (joined V x k).length
  · have hE := read_long hl
    simp [List.find?_cons, hA, hE, hl]
  · have hE : (readF (joined V x k)).err = 0 := by
      rw [← ht2]
      exact read_setting t2 (by have := congrArg List.length ht2; simp at this ⊢; omega)
    simp [List.find?_cons, hA, hE, hl]
theorem tx_pre (V p : List UInt8) : ∀ (x : List UInt8) (k : Nat), tx V (p ++ x) k = p ++ tx V x k := by
  intro x k
  cases k <;> simp [tx]
/-- what is done behind the inner loop -/
def endOf (n m i : Nat) (b : ByteArray) (s : Int) (k : Nat) : Option Bool :=
  if (wrap64 ((i : Int) + 1)) < (m : Int) then (if b.size + 2 ≤ 9223372036854775807 then (reveillelaw5_LineLong.l0 k (n : Int) (b ++ (⟨#[92, 10]⟩ : ByteArray)) (wrap64 (s + 1)) (m : Int) (wrap64 ((i : Int) + 1))) else (none)) else (reveillelaw5_LineLong.l0 k (n : Int) b s (m : Int) (wrap64 ((i : Int) + 1)))
theorem quo (n m : Nat) (hn : n ≤ 600) : wrap64 (Int.tdiv (wrap64 (n : Int)) (m : Int)) = ((n / m : Nat) : Int) := by
  have e : wrap64 (n : Int) = (n : Int) := by unfold wrap64; omega
  rw [e, ← Int.ofNat_tdiv]
  have := Nat.div_le_self n m
  obtain ⟨q, hq⟩ : ∃ q, n / m = q := ⟨_, rfl⟩
  rw [hq] at this ⊢
  show wrap64 ((q : Nat) : Int) = _
  unfold wrap64
  omega
theorem wrap_nat (k : Nat) (h : k ≤ 100000) : wrap64 ((k : Int) + 1) = ((k + 1 : Nat) : Int) := by unfold wrap64; omega
theorem inner (n m i : Nat) (hn : n ≤ 600) (hm : 1 ≤ m) : ∀ (d : Nat) (x : List UInt8) (s j : Nat), j + d = n / m → x.length + d ≤ 5000 → s + d ≤ 5000 →
    (∃ k, endOf n m i (ba (x ++ List.replicate d 118)) ((s + d : Nat) : Int) k = some true) → ∃ k, reveillelaw5_LineLong.l1 k (n : Int) (ba x) (s : Int) (m : Int) (i : Int) (j : Int) = some true := by
  have hq : n / m ≤ 600 := Nat.le_trans (Nat.div_le_self n m) hn
  intro d
  induction d with
  | zero =>
    rintro x s j hj hx hs ⟨k, hk⟩
    refine ⟨k + 1, ?_⟩
    rw [reveillelaw5_LineLong.l1, if_neg (by omega), quo n m hn, if_neg (by omega)]
    rw [List.replicate_zero, List.append_nil] at hk
    exact hk
  | succ d ih =>
    rintro x s j hj hx hs ⟨k, hk⟩
    have e1 : x ++ List.replicate (d + 1) 118 = (x ++ [118]) ++ List.replicate d 118 := by rw [List.replicate_succ]; simp
    have e2 : s + (d + 1) = (s + 1) + d := by omega
    rw [e1, e2] at hk
    obtain ⟨k2, hk2⟩ := ih (x ++ [118]) (s + 1) (j + 1) (by omega) (by simp; omega) (by omega) ⟨k, hk⟩
    refine ⟨k2 + 1, ?_⟩
    rw [reveillelaw5_LineLong.l1, if_neg (by omega), quo n m hn, if_pos (by omega), if_pos (by rw [ba_size]; omega), wrap_nat s (by omega), wrap_nat j (by omega)]
    rw [show ba x ++ (⟨#[118]⟩ : ByteArray) = ba (x ++ [118]) from ba_append x [118]]
    exact hk2
theorem outer (n m : Nat) (hn : n ≤ 600) (hm : 1 ≤ m) (V : List UInt8) (hV : V = List.replicate (n / m) 118) : ∀ (r i : Nat) (pre : List UInt8) (s : Nat), i + r + 1 = m → m ≤ 5 → pre.length + r * (n / m + 2) + n / m + 1 ≤ 4000 → s + n / m + r * (n / m + 1) ≤ 4000 →
    (linesF (pre ++ tx V V r)).2 = (if 400 < s + n / m + r * (n / m + 1) then (2, 51) else (0, 0)) → ∃ k, reveillelaw5_LineLong.l0 k (n : Int) (ba pre) (s : Int) (m : Int) (i : Int) = some true := by
  have hVl : V.length = n / m := by rw [hV, List.length_replicate]
  intro r
  induction r with
  | zero =>
    intro i pre s hi hm5 hpl hsl hl
    have hE : ∃ k, endOf n m i (ba (pre ++ List.replicate (n / m) 118)) ((s + n / m : Nat) : Int) k = some true := by
      refine ⟨1, ?_⟩
      unfold endOf
      rw [wrap_nat i (by omega), if_neg (by omega), reveillelaw5_LineLong.l0, if_neg (by omega), ← hV, if_pos (by rw [ba_size, List.length_append]; omega)]
      have e : ba (pre ++ V) ++ (⟨#[10]⟩ : ByteArray) = ba (pre ++ tx V V 0) := by
        rw [tx, ← List.append_assoc]; exact ba_append _ [10]
      have hz : (pre ++ tx V V 0).length ≤ 4000 := by rw [List.length_append, tx_len V _ hVl, hVl]; omega
      rw [e]
      unfold line_Lines.f
      rw [if_neg (by rw [ba_size]; omega), ba_list, Option.bind_some, hl]
      simp only [Nat.zero_mul, Nat.add_zero]
      by_cases h4 : 400 < s + n / m
      · rw [if_pos h4, if_pos (by omega), if_pos rfl]
        rfl
      · rw [if_neg h4, if_neg (by omega)]
        rfl
    obtain ⟨k, hk⟩ := inner n m i hn hm (n / m) pre s 0 (by omega) (by omega) (by omega) hE
    refine ⟨k + 1, ?_⟩
    rw [reveillelaw5_LineLong.l0, if_pos (by omega)]
    exact hk
  | succ r ih =>
    intro i pre s hi hm5 hpl hsl hl
    rw [Nat.succ_mul] at hpl hsl hl
    obtain ⟨k0, hk0⟩ := ih (i + 1) (pre ++ V ++ [92, 10]) (s + n / m + 1) (by omega) hm5 (by simp; omega) (by omega) (by
      have e : pre ++ V ++ [92, 10] ++ tx V V r = pre ++ tx V V (r + 1) := by simp [tx]
      rw [e, hl]
      congr 2
      omega)
    have hE : ∃ k, endOf n m i (ba (pre ++ List.replicate (n / m) 118)) ((s + n / m : Nat) : Int) k = some true := by
      refine ⟨k0, ?_⟩
      unfold endOf
      rw [wrap_nat i (by omega), if_pos (by omega), ← hV, if_pos (by rw [ba_size, List.length_append]; omega), wrap_nat (s + n / m) (by omega)]
      rw [show ba (pre ++ V) ++ (⟨#[92, 10]⟩ : ByteArray) = ba (pre ++ V ++ [92, 10]) from ba_append _ [92, 10]]
      exact hk0
    obtain ⟨k, hk⟩ := inner n m i hn hm (n / m) pre s 0 (by omega) (by omega) (by omega) hE
    refine ⟨k + 1, ?_⟩
    rw [reveillelaw5_LineLong.l0, if_pos (by omega)]
    exact hk
theorem pure : reveillelaw5_LineLong.Pure := by
  intro a0 a1 w0 w1
  obtain ⟨n, rfl, hn⟩ : ∃ n : Nat, a0 = (n : Int) ∧ n ≤ 65535 := by
    have h0 : 0 ≤ a0 ∧ a0 ≤ 65535 := by have h := w0; simp [Lit.wf] at h; exact h
    exact ⟨a0.toNat, by omega, by omega⟩
  obtain ⟨p, rfl, hp⟩ : ∃ n : Nat, a1 = (n : Int) ∧ n ≤ 255 := by
    have h0 : 0 ≤ a1 ∧ a1 ≤ 255 := by have h := w1; simp [Lit.wf] at h; exact h
    exact ⟨a1.toNat, by omega, by omega⟩
  unfold reveillelaw5_LineLong.f
  by_cases h6 : (n : Int) > 600
  · exact ⟨0, by rw [show reveillelaw5_known.f = some true from rfl, Option.bind_some, if_pos rfl, if_pos h6]⟩
  · have hn6 : n ≤ 600 := by omega
    have em : wrap64 (wrap64 (Int.tmod (p : Int) 5) + 1) = ((p % 5 + 1 : Nat) : Int) := by
      have : Int.tmod (p : Int) 5 = ((p % 5 : Nat) : Int) := (Int.ofNat_tmod p 5).symm
      rw [this]
      unfold wrap64
      omega
    have hm1 : 1 ≤ p % 5 + 1 := by omega
    have hm5 : p % 5 + 1 ≤ 5 := by omega
    obtain ⟨r, hr⟩ : ∃ r, p % 5 = r := ⟨_, rfl⟩
    rw [hr] at em hm1 hm5
    obtain ⟨V, hV⟩ : ∃ V : List UInt8, V = List.replicate (n / (r + 1)) 118 := ⟨_, rfl⟩
    have hVl : V.length = n / (r + 1) := by rw [hV, List.length_replicate]
    have hVm : ∀ c ∈ V, c = 118 := by intro c hc; rw [hV] at hc; exact (List.mem_replicate.1 hc).2
    have hqq : n / (r + 1) ≤ 600 := Nat.le_trans (Nat.div_le_self _ _) hn6
    have hmul : r * (n / (r + 1)) ≤ 600 * 4 := Nat.le_trans (Nat.mul_le_mul (show r ≤ 4 by omega) hqq) (by decide)
    have h1 : r * (n / (r + 1) + 2) = r * (n / (r + 1)) + r * 2 := Nat.mul_add _ _ _
    have h2 : r * (n / (r + 1) + 1) = r * (n / (r + 1)) + r * 1 := Nat.mul_add _ _ _
    have n92 : (92 : UInt8) ∉ V := fun h => absurd (hVm _ h) (by decide)
    have n10 : (10 : UInt8) ∉ V := fun h => absurd (hVm _ h) (by decide)
    obtain ⟨k, hk⟩ := outer n (r + 1) hn6 hm1 V hV r 0 [91, 65, 93, 10, 107, 61] 2 (by omega) hm5 (by simp only [List.length_cons, List.length_nil]; omega) (by omega) (by
      have e : ([91, 65, 93, 10, 107, 61] : List UInt8) ++ tx V V r = [91, 65, 93, 10] ++ tx V ([107, 61] ++ V) r := by
        rw [tx_pre]; rfl
      have hJ := joined_len V _ hVl r ([107, 61] ++ V)
      rw [e, lines_chain V ([107, 61] ++ V) r n92 n10 (by intro h; rcases List.mem_append.1 h with h | h; exact absurd h (by decide); exact n92 h) (by intro h; rcases List.mem_append.1 h with h | h; exact absurd h (by decide); exact n10 h) (List.prefix_append _ _), hJ, List.length_append, hVl]
      rfl)
    refine ⟨k, ?_⟩
    rw [show reveillelaw5_known.f = some true from rfl, Option.bind_some, if_pos rfl, if_neg h6, em]
    exact hk
theorem long_calls (a0 : Int) (a1 : Int) (w : World) (w0 : (Lit.int .u16 a0).wf = true) (w1 : (Lit.int .u8 a1).wf = true) (hG : GW w) :
    Calls Tryd.prog 4 #[.int .u16 a0, .int .u8 a1] w fun e w' => e = .returned (.bool true) ∧ Below w.heap.size w w' := reveillelaw5_LineLong.walk pure a0 a1 w w0 w1 hG
end Go.Proofs.YtaihipdebmcmhaaDoor.Lines
