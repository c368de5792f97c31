/- The plain law of LineNumbers: which lines the text that the law builds has. -/
import Derived.Test.YtaihipdebmcmhaaDoorNumF
namespace Go.Proofs.YtaihipdebmcmhaaDoor.Lines
open Go.RowKit Go.Shelf Go.Proofs.YtaihipdebmcmhaaDoorW.PrintWords Go.Proofs.YtaihipdebmcmhaaDoorW.PrintLast
set_option linter.unusedVariables false
set_option linter.unusedSimpArgs false
/-- the digits of a number below a hundred -/
def dg (i : Nat) : List UInt8 := if i < 10 then [UInt8.ofNat (48 + i)] else [UInt8.ofNat (48 + i / 10), UInt8.ofNat (48 + i % 10)]
theorem digits_f : ∀ i : Nat, i < 40 → reveilleref1_Digits.f 5 (i : Int) = some (ba (dg i)) := by decide +kernel
/-- the rows ahead of a setting -/
def preR (r : Nat) : List (List UInt8) := if r = 1 then [[35, 32, 110, 111, 116, 101]] else if r = 2 then [[32, 9], [59]] else []
/-- a setting's rows -/
def lnR (i r : Nat) : List (List UInt8) := if r = 3 then [107 :: (dg i ++ [61, 97, 32, 92]), [32, 98]] else [107 :: (dg i ++ [61, 97])]
def rowsG : Nat → List Nat → List (List UInt8)
  | _, [] => []
  | i, r :: t => preR r ++ lnR i r ++ rowsG (i + 1) t
/-- where the next row stands -/
def atG : Nat → List Nat → Nat
  | a, [] => a
  | a, r :: t => atG (a + (preR r).length + (if r = 3 then 2 else 1)) t
def wants : Nat → List Nat → List Int
  | _, [] => []
  | a, r :: t => ((a + (preR r).length : Nat) : Int) :: wants (a + (preR r).length + (if r = 3 then 2 else 1)) t
def valG (r : Nat) : List UInt8 := if r = 3 then [97, 32, 32, 32, 98] else [97]
def resG : Nat → Nat → List Nat → List S31
  | _, _, [] => []
  | i, a, r :: t => ⟨2, ba (107 :: dg i), ba (valG r), ((a + (preR r).length : Nat) : Int)⟩ :: resG (i + 1) (a + (preR r).length + (if r = 3 then 2 else 1)) t
def joinR (l : List (List UInt8)) : List UInt8 := l.flatMap (· ++ [10])
/-- the text -/
def txtG (L : List Nat) : List UInt8 := joinR ([91, 65, 93] :: rowsG 0 L)
theorem rowsG_snoc (r : Nat) : ∀ (L : List Nat) (i : Nat), rowsG i (L ++ [r]) = rowsG i L ++ (preR r ++ lnR (i + L.length) r) := by
  intro L
  induction L with
  | nil => intro i; simp [rowsG]
  | cons x L ih => intro i; simp only [List.cons_append, rowsG, ih, List.append_assoc, List.length_cons]; rw [show i + 1 + L.length = i + (L.length + 1) by omega]
theorem atG_snoc (r : Nat) : ∀ (L : List Nat) (a : Nat), atG a (L ++ [r]) = atG a L + (preR r).length + (if r = 3 then 2 else 1) := by
  intro L
  induction L with
  | nil => intro i; rfl
  | cons x L ih => intro i; simp only [List.cons_append, atG, ih]
theorem wants_snoc (r : Nat) : ∀ (L : List Nat) (a : Nat), wants a (L ++ [r]) = wants a L ++ [((atG a L + (preR r).length : Nat) : Int)] := by
  intro L
  induction L with
  | nil => intro i; rfl
  | cons x L ih => intro i; simp only [List.cons_append, wants, ih, atG]
theorem wants_len : ∀ (L : List Nat) (a : Nat), (wants a L).length = L.length := by
  intro L
  induction L with
  | nil => intro a; rfl
  | cons x L ih => intro a; simp only [wants, List.length_cons, ih]
theorem resG_len : ∀ (L : List Nat) (i a : Nat), (resG i a L).length = L.length := by
  intro L
  induction L with
  | nil => intro i a; rfl
  | cons x L ih => intro i a; simp only [resG, List.length_cons, ih]
theorem resG_at : ∀ (L : List Nat) (i a k r : Nat), L[k]? = some r → (resG i a L)[k]? = some ⟨2, ba (107 :: dg (i + k)), ba (valG r), (wants a L).getD k 0⟩ := by
  intro L
  induction L with
  | nil => intro i a k r h; simp at h
  | cons x L ih =>
    intro i a k r h
    cases k with
    | zero => obtain rfl : x = r := by simpa using h
              simp [resG, wants]
    | succ k =>
      have := ih (i + 1) (a + (preR x).length + (if x = 3 then 2 else 1)) k r (by simpa using h)
      simp only [resG, wants, List.getElem?_cons_succ, this, List.getD_cons_succ]
      rw [show i + 1 + k = i + (k + 1) by omega]
theorem txtG_snoc (L : List Nat) (r : Nat) : txtG (L ++ [r]) = txtG L ++ joinR (preR r ++ lnR L.length r) := by
  unfold txtG joinR
  rw [rowsG_snoc]
  simp
theorem dg_len (i : Nat) : (dg i).length ≤ 2 := by unfold dg; split <;> simp
theorem dg_10 : ∀ i, i < 40 → (10 : UInt8) ∉ dg i := by decide +kernel
theorem rowsL_row (x : List UInt8) (h : (10 : UInt8) ∉ x) (t : List UInt8) : rowsL (x ++ 10 :: t) = x :: rowsL t := by
  induction x with
  | nil => simp [rowsL]
  | cons c x ih =>
    have hc : c ≠ 10 := fun e => h (by rw [e]; exact List.mem_cons_self)
    have hx : (10 : UInt8) ∉ x := fun e => h (List.mem_cons_of_mem _ e)
    rw [List.cons_append, rowsL, if_neg hc, ih hx]
    rfl
theorem rowsL_join : ∀ (l : List (List UInt8)), (∀ x ∈ l, (10 : UInt8) ∉ x) → rowsL (joinR l) = l ++ [[]] := by
  intro l
  induction l with
  | nil => intro _; rfl
  | cons x l ih =>
    intro h
    have : joinR (x :: l) = x ++ 10 :: joinR l := by simp [joinR]
    rw [this, rowsL_row x (h x List.mem_cons_self), ih fun y hy => h y (List.mem_cons_of_mem _ hy)]
    rfl
theorem rows_10 : ∀ (L : List Nat) (i : Nat), i + L.length ≤ 40 → ∀ x ∈ rowsG i L, (10 : UInt8) ∉ x := by
  intro L
  induction L with
  | nil => intro i _ x hx; simp [rowsG] at hx
  | cons r L ih =>
    intro i hi x hx
    rw [List.length_cons] at hi
    have hd := dg_10 i (by omega)
    simp only [rowsG, List.mem_append] at hx
    rcases hx with (hx | hx) | hx
    · unfold preR at hx
      split at hx
      · simp at hx; subst hx; decide
      · split at hx
        · simp at hx; rcases hx with rfl | rfl <;> decide
        · simp at hx
    · unfold lnR at hx
      split at hx
      · simp at hx
        rcases hx with rfl | rfl
        · simp [hd]
        · decide
      · simp at hx; subst hx; simp [hd]
    · exact ih (i + 1) (by omega) x hx
theorem idle_pre1 : idleL [35, 32, 110, 111, 116, 101] = true := by decide +kernel
theorem idle_pre2 : idleL [32, 9] = true := by decide +kernel
theorem idle_pre3 : idleL [59] = true := by decide +kernel
theorem idle_ln (t : List UInt8) : idleL (107 :: t) = false := by
  unfold idleL Lib.trimLeftS
  rfl
theorem read_ln1 : ∀ i, i < 40 → readF (107 :: (dg i ++ [61, 97])) = (2, ba (107 :: dg i), ba [97], 0, 0) := by decide +kernel
theorem read_ln3 : ∀ i, i < 40 → readF (107 :: (dg i ++ [61, 97, 32, 32, 32, 98])) = (2, ba (107 :: dg i), ba [97, 32, 32, 32, 98], 0, 0) := by decide +kernel
theorem suf1 : ∀ i, i < 40 → Lib.hasSuffix (107 :: (dg i ++ [61, 97])) [92] = false := by decide +kernel
theorem suf3 : ∀ i, i < 40 → Lib.hasSuffix (107 :: (dg i ++ [61, 97, 32, 92])) [92] = true := by decide +kernel
theorem suf4 : ∀ i, i < 40 → Lib.hasSuffix (107 :: (dg i ++ [61, 97, 32, 32, 32, 98])) [92] = false := by decide +kernel
theorem suf5 : ∀ i, i < 40 → ((107 :: (dg i ++ [61, 97, 32, 92])).take ((107 :: (dg i ++ [61, 97, 32, 92])).length - 1) ++ [32] ++ [32, 98]) = 107 :: (dg i ++ [61, 97, 32, 32, 32, 98]) := by decide +kernel
theorem goL_one (i : Nat) (hi : i < 40) (rest : List (List UInt8)) : goL (107 :: (dg i ++ [61, 97])) rest = (107 :: (dg i ++ [61, 97]), rest) := by
  cases rest with
  | nil => unfold goL; rw [suf1 i hi]; rfl
  | cons r rest => unfold goL; rw [suf1 i hi]; rfl
theorem goL_two (i : Nat) (hi : i < 40) (rest : List (List UInt8)) : goL (107 :: (dg i ++ [61, 97, 32, 92])) ([32, 98] :: rest) = (107 :: (dg i ++ [61, 97, 32, 32, 32, 98]), rest) := by
  unfold goL
  rw [suf3 i hi, if_pos rfl, suf5 i hi]
  cases rest with
  | nil => unfold goL; rw [suf4 i hi]; rfl
  | cons r rest => unfold goL; rw [suf4 i hi]; rfl
def lineG (i r : Nat) : List UInt8 := if r = 3 then 107 :: (dg i ++ [61, 97, 32, 32, 32, 98]) else 107 :: (dg i ++ [61, 97])
def itemsG : Nat → Nat → List Nat → List (Int × List UInt8)
  | _, _, [] => []
  | i, a, r :: t => (((a + (preR r).length : Nat) : Int), lineG i r) :: itemsG (i + 1) (a + (preR r).length + (if r = 3 then 2 else 1)) t
theorem items_idle (N f : Nat) (r : List UInt8) (rest : List (List UInt8)) (h : idleL r = true) : items N (f + 1) (r :: rest) = items N f rest := by
  rw [items, if_pos h]
theorem items_ln (N f i r : Nat) (hi : i < 40) (rest : List (List UInt8)) : items N (f + 1) (lnR i r ++ rest) = (((N - ((lnR i r).length - 1 + rest.length) : Nat) : Int), lineG i r) :: items N f rest := by
  unfold lnR lineG
  by_cases h : r = 3
  · rw [if_pos h, if_pos h, List.cons_append, List.cons_append, List.nil_append, items, if_neg (by rw [idle_ln]; decide), goL_two i hi]
    simp only [List.length_cons, List.length_nil]
    rw [show rest.length + 1 = 0 + 1 + 1 - 1 + rest.length by omega]
  · rw [if_neg h, if_neg h, List.cons_append, List.nil_append, items, if_neg (by rw [idle_ln]; decide), goL_one i hi]
    simp only [List.length_cons, List.length_nil]
    rw [show 0 + 1 - 1 + rest.length = rest.length by omega]
theorem items_rows (N : Nat) : ∀ (L : List Nat) (i a f : Nat), i + L.length ≤ 40 → a + (rowsG i L).length = N → (rowsG i L).length + 1 ≤ f →
    items N f (rowsG i L ++ [[]]) = itemsG i a L := by
  intro L
  induction L with
  | nil =>
    intro i a f _ _ hf
    obtain ⟨f, rfl⟩ : ∃ m, f = m + 1 := ⟨f - 1, by omega⟩
    simp only [rowsG, List.nil_append, itemsG]
    rw [items_idle N f [] [] (by decide +kernel)]
    cases f <;> rfl
  | cons r L ih =>
    intro i a f hi hN hf
    rw [List.length_cons] at hi
    have hlen : (rowsG i (r :: L)).length = (preR r).length + (lnR i r).length + (rowsG (i + 1) L).length := by simp only [rowsG, List.length_append]
    have hln : (lnR i r).length = if r = 3 then 2 else 1 := by unfold lnR; split <;> rfl
    rw [hlen, hln] at hN hf
    have tail : ∀ f, (if r = 3 then 2 else 1) + (rowsG (i + 1) L).length + 1 ≤ f → items N f (lnR i r ++ (rowsG (i + 1) L ++ [[]])) = itemsG i a (r :: L) := by
      intro f hf
      obtain ⟨f, rfl⟩ : ∃ m, f = m + 1 := ⟨f - 1, by split at hf <;> omega⟩
      rw [items_ln N f i r (by omega), ih (i + 1) (a + (preR r).length + (if r = 3 then 2 else 1)) f (by omega) (by omega) (by split at hf <;> omega), itemsG, hln, List.length_append, List.length_singleton]
      rw [show N - ((if r = 3 then 2 else 1) - 1 + ((rowsG (i + 1) L).length + 1)) = a + (preR r).length by split at hN <;> simp_all <;> omega]
    have e : rowsG i (r :: L) ++ [[]] = preR r ++ (lnR i r ++ (rowsG (i + 1) L ++ [[]])) := by simp only [rowsG, List.append_assoc]
    rw [e]
    by_cases h1 : r = 1
    · have ep : preR r = [[35, 32, 110, 111, 116, 101]] := by unfold preR; rw [if_pos h1]
      rw [ep] at hf ⊢
      obtain ⟨f, rfl⟩ : ∃ m, f = m + 1 := ⟨f - 1, by simp at hf; omega⟩
      rw [List.cons_append, List.nil_append, items_idle N f _ _ idle_pre1]
      exact tail f (by simp at hf; omega)
    · by_cases h2 : r = 2
      · have ep : preR r = [[32, 9], [59]] := by unfold preR; rw [if_neg h1, if_pos h2]
        rw [ep] at hf ⊢
        obtain ⟨f, rfl⟩ : ∃ m, f = m + 1 + 1 := ⟨f - 2, by simp at hf; omega⟩
        rw [List.cons_append, List.cons_append, List.nil_append, items_idle N (f + 1) _ _ idle_pre2, items_idle N f _ _ idle_pre3]
        exact tail f (by simp at hf; omega)
      · have ep : preR r = [] := by unfold preR; rw [if_neg h1, if_neg h2]
        rw [ep] at hf ⊢
        rw [List.nil_append]
        exact tail f (by simp at hf; omega)
theorem read_G (i r : Nat) (hi : i < 40) : readF (lineG i r) = (2, ba (107 :: dg i), ba (valG r), 0, 0) := by
  unfold lineG valG
  by_cases h : r = 3
  · rw [if_pos h, if_pos h]; exact read_ln3 i hi
  · rw [if_neg h, if_neg h]; exact read_ln1 i hi
theorem itemsG_ok : ∀ (L : List Nat) (i a : Nat), i + L.length ≤ 40 → (∀ x ∈ itemsG i a L, (readF x.2).err = 0) ∧ (itemsG i a L).map (mkL readF) = resG i a L := by
  intro L
  induction L with
  | nil => intro i a _; exact ⟨fun x hx => (by simp [itemsG] at hx), rfl⟩
  | cons r L ih =>
    intro i a hi
    rw [List.length_cons] at hi
    obtain ⟨h1, h2⟩ := ih (i + 1) (a + (preR r).length + (if r = 3 then 2 else 1)) (by omega)
    refine ⟨fun x hx => ?_, ?_⟩
    · simp only [itemsG, List.mem_cons] at hx
      rcases hx with rfl | hx
      · rw [read_G i r (by omega)]; rfl
      · exact h1 x hx
    · simp only [itemsG, resG, List.map_cons, h2, mkL, read_G i r (by omega)]
theorem read_A : readF [91, 65, 93] = (1, ba [65], ⟨#[]⟩, 0, 0) := by decide +kernel
theorem goL_A (rest : List (List UInt8)) : goL [91, 65, 93] rest = ([91, 65, 93], rest) := by
  cases rest <;> rfl
theorem lines_G (L : List Nat) (hL : L.length ≤ 40) : linesF (txtG L) = (⟨1, ba [65], ⟨#[]⟩, 1⟩ :: resG 0 2 L, 0, 0) := by
  have hr : rowsL (txtG L) = [91, 65, 93] :: (rowsG 0 L ++ [[]]) := by
    unfold txtG
    rw [rowsL_join]
    · rfl
    · intro x hx
      rcases List.mem_cons.1 hx with rfl | hx
      · decide
      · exact rows_10 L 0 (by omega) x hx
  have hi : items (rowsL (txtG L)).length (rowsL (txtG L)).length (rowsL (txtG L)) = (1, [91, 65, 93]) :: itemsG 0 2 L := by
    rw [hr, List.length_cons, items, if_neg (by decide), goL_A, items_rows _ L 0 2 _ (by omega) (by simp; omega) (by simp)]
    simp
  obtain ⟨h1, h2⟩ := itemsG_ok L 0 2 (by omega)
  unfold linesF
  rw [hi]
  unfold coll
  rw [find_none]
  · simp only [List.map_cons, h2, mkL, read_A]
  · intro x hx
    rcases List.mem_cons.1 hx with rfl | hx
    · rw [read_A]; rfl
    · exact h1 x hx
end Go.Proofs.YtaihipdebmcmhaaDoor.Lines
