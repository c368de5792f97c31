/- The plain law: words that are quoted, with blanks between, are these words. -/
import Derived.Test.YtaihipdebmcmhaaDoorQuotesF
namespace Go.Proofs.YtaihipdebmcmhaaDoor.Splits
open Go.RowKit Go.Proofs.YtaihipdebmcmhaaDoorW.PrintWords Go.Proofs.YtaihipdebmcmhaaDoorW.PrintLast
set_option linter.unusedVariables false
set_option linter.unusedSectionVars false
set_option linter.unusedSimpArgs false
theorem rd_drop (l : List ByteArray) (i : Nat) (b : ByteArray) (t : List ByteArray) (h : l.drop i = b :: t) : rdOf ByteArray.empty l (i : Int) = b := by
  unfold rdOf
  have h1 : l[i]? = some b := by
    have := congrArg (fun x => x[0]?) h
    simpa using this
  rw [List.getD_eq_getElem?_getD, show (i : Int).toNat = i from rfl, h1]; rfl
theorem short_f (l : List ByteArray) (n m : Int) (hl : l.length ≤ 9223372036854775807) : ∃ k b, reveillehelp_Short.f k l n m = some b ∧ (b = true → (l.length : Int) ≤ n ∧ ∀ x, x ∈ l → (x.size : Int) ≤ m) := by
  have key : ∀ (t : List ByteArray) (i : Nat), l.drop i = t → i + t.length = l.length → ∃ k b, reveillehelp_Short.l0 k l n m (i : Int) = some b ∧ (b = true → (l.length : Int) ≤ n ∧ ∀ x, x ∈ t → (x.size : Int) ≤ m) := by
    intro t
    induction t with
    | nil =>
      intro i hd hi
      simp at hi
      refine ⟨1, decide ((l.length : Int) ≤ n), ?_, fun h => ⟨of_decide_eq_true h, fun x hx => nomatch hx⟩⟩
      rw [reveillehelp_Short.l0, if_neg (by omega)]
    | cons b t ih =>
      intro i hd hi
      simp only [List.length_cons] at hi
      have hr := rd_drop l i b t hd
      have hd2 : l.drop (i + 1) = t := by
        have := congrArg List.tail hd
        simpa using this
      obtain ⟨k, v, h1, h2⟩ := ih (i + 1) hd2 (by omega)
      by_cases hb : (b.size : Int) > m
      · refine ⟨1, false, ?_, fun h => nomatch h⟩
        rw [reveillehelp_Short.l0, if_pos (by omega), if_pos (by omega), hr, if_pos hb]
      · refine ⟨k + 1, v, ?_, fun h => ⟨(h2 h).1, fun x hx => ?_⟩⟩
        · rw [reveillehelp_Short.l0, if_pos (by omega), if_pos (by omega), hr, if_neg hb, wrap_ok (by omega) (by omega)]
          exact h1
        · rcases List.mem_cons.1 hx with rfl | hx
          · omega
          · exact (h2 h).2 x hx
  obtain ⟨k, b, h1, h2⟩ := key l 0 rfl (by omega)
  exact ⟨k, b, h1, h2⟩
/-- what is quoted, with a blank ahead -/
def ql (l : List ByteArray) : List UInt8 := l.flatMap fun b => 32 :: 34 :: (b.data.toList.flatMap quo ++ [34])
theorem quo_len (l : List UInt8) : (l.flatMap quo).length ≤ 2 * l.length := by
  induction l with
  | nil => simp
  | cons x l ih =>
    rw [List.flatMap_cons, List.length_append, List.length_cons]
    have : (quo x).length ≤ 2 := by
      unfold quo; split
      · simp
      · split <;> simp
    omega
theorem size_list (b : ByteArray) : b.data.toList.length = b.size := by rw [Array.length_toList]; rfl
theorem ql_len (m : Nat) : ∀ l : List ByteArray, (∀ x, x ∈ l → x.size ≤ m) → (ql l).length ≤ (2 * m + 3) * l.length := by
  intro l
  induction l with
  | nil => intro _; simp [ql]
  | cons b l ih =>
    intro h
    have h1 := ih (fun x hx => h x (List.mem_cons_of_mem _ hx))
    have h2 := quo_len b.data.toList
    rw [size_list] at h2
    have h3 := h b (by simp)
    unfold ql at h1 ⊢
    rw [List.flatMap_cons, List.length_append, List.length_cons, List.length_cons, List.length_append, List.length_singleton, List.length_cons, Nat.mul_succ]
    omega
theorem unq_quo (r : List UInt8) : ∀ (b acc : List UInt8), unq 34 acc (b.flatMap quo ++ 34 :: r) = some (acc ++ b, r) := by
  intro b
  induction b with
  | nil => intro acc; rw [unq.eq_def]; simp
  | cons c b ih =>
    intro acc
    rw [List.flatMap_cons]
    by_cases hq : c = 34 ∨ c = 92
    · have eq : quo c = [92, c] := by unfold quo; rw [if_pos hq]
      have hd : c = 34 ∨ c = 39 ∨ c = 92 := by rcases hq with h | h; exact .inl h; exact .inr (.inr h)
      rw [eq, unq.eq_def]
      simp only [List.cons_append, List.nil_append]
      rw [if_neg (by decide), if_pos True.intro, if_pos hd, ih]
      simp
    · by_cases h10 : c = 10
      · have eq : quo c = [92, 110] := by unfold quo; rw [if_neg hq, if_pos h10]
        rw [eq, unq.eq_def]
        simp only [List.cons_append, List.nil_append]
        rw [if_neg (by decide), if_pos True.intro, if_neg (by decide), if_pos True.intro, ih, h10]
        simp
      · have eq : quo c = [c] := by unfold quo; rw [if_neg hq, if_neg h10]
        rw [eq, unq.eq_def]
        simp only [List.cons_append, List.nil_append]
        rw [if_neg (fun e => hq (.inl e)), if_neg (fun e => hq (.inr e)), ih]
        simp
theorem spl_ql : ∀ (l : List ByteArray) (n : Nat) (acc : List ByteArray), l.length < n → spl n (ql l ++ [32]) acc = (acc ++ l, 0) := by
  intro l
  induction l with
  | nil =>
    intro n acc hn
    cases n with
    | zero => simp at hn
    | succ n =>
      have e : (ql [] ++ [32]).dropWhile blank = [] := by decide
      rw [spl, e]
      simp
  | cons b l ih =>
    intro n acc hn
    cases n with
    | zero => simp at hn
    | succ n =>
      have e : ql (b :: l) ++ [32] = 32 :: 34 :: (b.data.toList.flatMap quo ++ 34 :: (ql l ++ [32])) := by
        unfold ql
        rw [List.flatMap_cons]
        simp
      have hd : (ql (b :: l) ++ [32]).dropWhile blank = 34 :: (b.data.toList.flatMap quo ++ 34 :: (ql l ++ [32])) := by
        rw [e, List.dropWhile_cons_of_pos (by decide), List.dropWhile_cons_of_neg (by decide)]
      have hne : ∃ r, ql l ++ [32] = 32 :: r := by
        cases l with
        | nil => exact ⟨[], rfl⟩
        | cons b' l => exact ⟨_, by unfold ql; rw [List.flatMap_cons]; rfl⟩
      obtain ⟨r, hr⟩ := hne
      have hih := ih n (acc ++ [b]) (by simp at hn; omega)
      rw [spl, hd]
      simp only
      rw [if_pos (.inl True.intro), unq_quo, hr]
      simp only [List.nil_append]
      rw [if_pos (by decide), ← hr, ba_of, hih]
      simp
theorem quotes_law (l : List ByteArray) (hl : l.length ≤ 9223372036854775807) : ∃ k, reveillelaw5_LineQuotes.f k l = some true := by
  obtain ⟨k1, b, h1, hb⟩ := short_f l 20 60 hl
  cases b with
  | false =>
    refine ⟨k1, ?_⟩
    unfold reveillelaw5_LineQuotes.f reveillelaw5_known.f
    rw [Option.bind_some, if_pos rfl, h1, Option.bind_some, if_neg (by decide)]
  | true =>
    obtain ⟨hlen, hsz⟩ := hb rfl
    have hsz' : ∀ x, x ∈ l → x.size ≤ 60 := fun x hx => by have := hsz x hx; omega
    have hql := ql_len 60 l hsz'
    have hqlb : (ql l).length ≤ 2460 := by omega
    have hsp : ∃ k, line_Split.f k (ba (ql l ++ [32])) = some (l, 0) := by
      obtain ⟨k, h⟩ := line_l0 ((ql l ++ [32]).length + 100) (ql l ++ [32]) [] (by omega) (by simp; omega)
      rw [spl_ql l _ [] (by omega)] at h
      exact ⟨k, h⟩
    obtain ⟨k2, h2⟩ := hsp
    obtain ⟨k3, h3⟩ := texts_same l (by omega)
    have key : ∀ (t p : List ByteArray), l = p ++ t → ∃ k, reveillelaw5_LineQuotes.l0 k l (ba (ql p)) (p.length : Int) = some true := by
      intro t
      induction t with
      | nil =>
        intro p hp
        rw [List.append_nil] at hp
        subst hp
        refine ⟨k2 + k3 + 1, ?_⟩
        have f2 := leO_le (f := fun k => line_Split.f k (ba (ql l ++ [32]))) (fun k => line_Split.mono _ k) (show k2 ≤ k2 + k3 by omega) _ h2
        have f3 := leO_le (f := fun k => reveillehelp_Texts.f k l l) (fun k => reveillehelp_Texts.mono _ _ k) (show k3 ≤ k2 + k3 by omega) _ h3
        have f2' : line_Split.f (k2 + k3) (ba (ql l ++ [32])) = some (l, 0) := f2
        have f3' : reveillehelp_Texts.f (k2 + k3) l l = some true := f3
        have e : ba (ql l) ++ (⟨#[32]⟩ : ByteArray) = ba (ql l ++ [32]) := by unfold ba; apply ByteArray.ext; apply Array.ext'; simp
        rw [reveillelaw5_LineQuotes.l0, if_neg (by omega), if_pos (by rw [ba_size]; omega), e, f2', Option.bind_some, if_pos rfl, f3', Option.bind_some]
      | cons b t ih =>
        intro p hp
        obtain ⟨k, h⟩ := ih (p ++ [b]) (by rw [hp]; simp)
        refine ⟨k + 1, ?_⟩
        have hr : rdOf ByteArray.empty l (p.length : Int) = b := rd_drop l p.length b t (by rw [hp]; simp)
        have hbm : b ∈ l := by rw [hp]; simp
        have hb60 := hsz' b hbm
        have hq : line_Quote.f b = some (ba (34 :: (b.data.toList.flatMap quo ++ [34]))) := by
          have := quote_line b.data.toList (by rw [size_list]; omega)
          rwa [ba_of] at this
        have hpl : (ql p).length ≤ 2460 := by
          have h1 : (ql l).length = (ql p).length + (ql (b :: t)).length := by rw [hp]; unfold ql; rw [List.flatMap_append, List.length_append]
          omega
        have hql2 := quo_len b.data.toList
        rw [size_list] at hql2
        have hlp : l.length = p.length + (t.length + 1) := by rw [hp]; simp
        have e : (ba (ql p) ++ (⟨#[32]⟩ : ByteArray)) ++ ba (34 :: (b.data.toList.flatMap quo ++ [34])) = ba (ql (p ++ [b])) := by
          unfold ba ql; rw [List.flatMap_append]; apply ByteArray.ext; apply Array.ext'; simp
        rw [reveillelaw5_LineQuotes.l0, if_pos (by omega), if_pos (by rw [ba_size]; omega), if_pos (by omega), hr, hq, Option.bind_some,
          if_pos (by rw [ByteArray.size_append, ba_size, ba_size, show (⟨#[32]⟩ : ByteArray).size = 1 from rfl, List.length_cons, List.length_append, List.length_singleton]; omega), e, wrap_ok (by omega) (by omega)]
        rw [List.length_append, List.length_singleton] at h
        exact h
    obtain ⟨k4, h4⟩ := key l [] rfl
    refine ⟨k1 + k4, ?_⟩
    have f1 := leO_le (f := fun k => reveillehelp_Short.f k l 20 60) (fun k => reveillehelp_Short.mono _ _ _ k) (show k1 ≤ k1 + k4 by omega) _ h1
    have f4 := leO_le (f := fun k => reveillelaw5_LineQuotes.l0 k l (ba (ql [])) 0) (fun k => (reveillelaw5_LineQuotes.mono_l k) _ _ _) (show k4 ≤ k1 + k4 by omega) _ h4
    have f1' : reveillehelp_Short.f (k1 + k4) l 20 60 = some true := f1
    unfold reveillelaw5_LineQuotes.f reveillelaw5_known.f
    rw [Option.bind_some, if_pos rfl, f1', Option.bind_some, if_pos rfl]
    exact f4
theorem quotes_calls (A0 : Option Addr) (c0 : Nat) (l0 : List ByteArray) (w : World) (hr0 : Kd.C Kd.string w A0 l0.length l0) (hc0 : l0.length ≤ c0) (hs : w.ShapedOpen Tryd.prog) :
    Calls Tryd.prog 8 #[.slice A0 l0.length c0] w fun e w' => e = .returned (.bool true) ∧ Below w.heap.size w w' := by
  obtain ⟨k, h⟩ := quotes_law l0 hr0.2.1
  exact reveillelaw5_LineQuotes.calls k A0 c0 l0 true w hr0 hc0 h ⟨w, hs, Below.refl _ _⟩
end Go.Proofs.YtaihipdebmcmhaaDoor.Splits
