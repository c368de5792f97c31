/- The plain law of ServiceLimits: in any window of its interval it begins at most as often as its burst allows. -/
import Derived.Test.YtnoddedgkgkfhaaSvcN
namespace Go.Proofs.Ytnoddedgkgkfhaa.Svc
open Go.RowKit
set_option linter.unusedVariables false
set_option linter.unusedSimpArgs false
/-! what stays of the row of starts -/
@[simp] theorem add_st (s : S) (a : S41) : (add s a).starts = s.starts := rfl
@[simp] theorem result_st (s : S) (r : Int) : (resultS s r).starts = s.starts := rfl
@[simp] theorem timer_st (s : S) (r : Int) : (timerS s r).starts = s.starts := rfl
@[simp] theorem idle_st (s : S) : (idleS s).starts = s.starts := rfl
@[simp] theorem watch_st (e : En) (s : S) (t : Int) : (watchS e s t).starts = s.starts := by unfold watchS; split <;> rfl
@[simp] theorem spoils_st (s : S) (r : Int) : (spoilsS s r).starts = s.starts := by unfold spoilsS; split <;> rfl
@[simp] theorem kill1_st (e : En) (s : S) (p g : Int) : (kill1 e s p g).starts = s.starts := by unfold kill1; split <;> rfl
@[simp] theorem kills_st (e : En) (s : S) (g : Int) : (killsS e s g).starts = s.starts := by unfold killsS; split <;> simp
@[simp] theorem ends_st (e : En) (s : S) : (endsS e s).starts = s.starts := by
  unfold endsS; dsimp only; split <;> (first | (simp; done) | (split <;> (first | (simp; done) | (split <;> simp))))
@[simp] theorem terms_st (e : En) (s : S) (r : Int) : (termsS e s r).starts = s.starts := by
  unfold termsS termsG; split <;> simp
@[simp] theorem fails_st (e : En) (s : S) (r : Int) : (failsS e s r).starts = s.starts := by unfold failsS; simp
@[simp] theorem started_st (e : En) (s : S) : (startedS e s).starts = s.starts := by
  unfold startedS startedG; split <;> (first | (simp; done) | (split <;> simp))
@[simp] theorem spawns_st (e : En) (s : S) (sub : Int) (l : List ByteArray) (w : Int) (b : Bool) : (spawnsS e s sub l w b).starts = s.starts := by
  unfold spawnsS; dsimp only; split <;> simp
@[simp] theorem launches_st (e : En) (s : S) : (launchesS e s).starts = s.starts := by unfold launchesS; split <;> simp
@[simp] theorem prepares_st (e : En) (s : S) : (preparesS e s).starts = s.starts := by unfold preparesS; split <;> simp
@[simp] theorem stops_st (e : En) (s : S) : (stopsS e s).starts = s.starts := by unfold stopsS; split <;> simp
@[simp] theorem stop_st (e : En) (s : S) : (stopS e s).starts = s.starts := by unfold stopS; simp [apply_ite S.starts]
@[simp] theorem spawned_st (e : En) (s : S) : (spawnedS e s).starts = s.starts := by unfold spawnedS spawnedG; simp [apply_ite S.starts]
@[simp] theorem controlled_st (e : En) (s : S) : (controlledS e s).starts = s.starts := by unfold controlledS; simp [apply_ite S.starts]
@[simp] theorem mained_st (e : En) (s : S) : (mainedS e s).starts = s.starts := by
  unfold mainedS; split
  · split <;> simp
  · split
    · simp; split <;> simp
    · rfl
@[simp] theorem over_st (e : En) (s : S) (x : Bool) : (overS e s x).starts = s.starts := by unfold overS; split <;> simp
@[simp] theorem exit_st (e : En) (s : S) : (exitS e s).starts = s.starts := by unfold exitS; simp [apply_ite S.starts]
@[simp] theorem empty_st (e : En) (s : S) : (emptyS e s).starts = s.starts := by unfold emptyS; simp [apply_ite S.starts]
@[simp] theorem note_st (e : En) (s : S) : (noteS e s).starts = s.starts := by unfold noteS; simp [apply_ite S.starts]
/-- a start is told -/
def tellsB (e : En) (s : S) : Bool := e.kind == 1 && (s.sub == 1 || s.sub == 9 || s.sub == 10) || e.kind == 5 && s.sub == 10
theorem told_quiet {e : En} {s : S} (h : tellsB e s = false) : (toldS e s).1.starts = s.starts := by
  unfold tellsB at h
  simp only [Bool.or_eq_false_iff, Bool.and_eq_false_iff] at h
  obtain ⟨ha, hb⟩ := h
  unfold toldS
  split
  · rename_i h1
    rcases ha with ha | ha
    · rw [ha] at h1; cases h1
    · unfold startS
      rw [ha.1.1, ha.1.2, ha.2]
      simp only [Bool.or_false, Bool.false_eq_true, if_false]
      simp [apply_ite S.starts]
  · split
    · simp
    · split
      · simp
      · split
        · simp
        · split
          · rename_i h5
            rcases hb with hb | hb
            · rw [hb] at h5; cases h5
            · show (timeS e s).starts = _
              unfold timeS
              rw [hb]
              simp only [Bool.false_eq_true, if_false]
              simp [apply_ite S.starts]
          · split
            · show (if _ then _ else _ : S).starts = _
              split <;> simp
            · split
              · simp
              · split
                · simp
                · rfl
theorem told_tells {e : En} {s : S} (h : tellsB e s = true) : toldS e s = (beginsS e s, true) := by
  unfold tellsB at h
  simp only [Bool.or_eq_true, Bool.and_eq_true, beq_iff_eq] at h
  rcases h with ⟨h1, h2⟩ | ⟨h1, h2⟩
  · unfold toldS
    rw [h1, if_pos (by decide)]
    unfold startS
    rw [if_pos (by simp only [Bool.or_eq_true, beq_iff_eq]; exact h2)]
  · unfold toldS
    rw [h1]
    simp only [show ((5 : Int) == 1) = false from by decide, show ((5 : Int) == 2) = false from by decide, show ((5 : Int) == 3) = false from by decide, show ((5 : Int) == 4) = false from by decide, show ((5 : Int) == 5) = true from by decide, Bool.false_eq_true, if_false, if_true]
    unfold timeS startS
    rw [h2]
    simp only [show ((10 : Int) == 2) = false from by decide, show ((10 : Int) == 3) = false from by decide, show ((10 : Int) == 6) = false from by decide, show ((10 : Int) == 7) = false from by decide, show ((10 : Int) == 8) = false from by decide, show ((10 : Int) == 10) = true from by decide, Bool.or_false, Bool.false_eq_true, if_false, if_true, Bool.or_true]
/-! behind a start that was let begin it has not failed -/
theorem watch_sub (e : En) (s : S) (t : Int) : (watchS e s t).sub = s.sub := by unfold watchS; split <;> rfl
theorem kill1_sub (e : En) (s : S) (p g : Int) : (kill1 e s p g).sub = s.sub := by unfold kill1; split <;> rfl
theorem kills_sub (e : En) (s : S) (g : Int) : (killsS e s g).sub = s.sub := by
  unfold killsS; split
  · rfl
  · rw [kill1_sub, kill1_sub]
theorem ends_sub {e : En} {s : S} (h : s.result = 0) : (endsS e s).sub ≠ 9 := by
  unfold endsS
  dsimp only
  rw [h]
  split
  · show (1 : Int) ≠ 9; decide
  · split
    · show (10 : Int) ≠ 9; decide
    · rw [if_neg (by decide)]
      show (1 : Int) ≠ 9; decide
theorem terms_sub {e : En} {s : S} (h : s.result = 0) : (termsS e s 0).sub ≠ 9 := by
  unfold termsS spoilsS
  rw [if_pos h]
  unfold termsG
  split
  · exact ends_sub rfl
  · rw [kills_sub, watch_sub]
    show (7 : Int) ≠ 9; decide
theorem started_sub {e : En} {s : S} (h : s.result = 0) : (startedS e s).sub ≠ 9 := by
  unfold startedS startedG
  split
  · rw [watch_sub]; show (4 : Int) ≠ 9; decide
  · split
    · show (5 : Int) ≠ 9; decide
    · exact terms_sub h
theorem spawns_sub (e : En) (s : S) (sub : Int) (l : List ByteArray) (w : Int) (b : Bool) : (spawnsS e s sub l w b).sub = sub := by
  unfold spawnsS; dsimp only; split
  · show (watchS _ _ _).sub = _; rw [watch_sub]; rfl
  · rfl
theorem launches_sub {e : En} {s : S} (h : s.result = 0) : (launchesS e s).sub ≠ 9 := by
  unfold launchesS; split
  · exact started_sub h
  · rw [spawns_sub]; decide
theorem prepares_sub {e : En} {s : S} (h : s.result = 0) : (preparesS e s).sub ≠ 9 := by
  unfold preparesS; split
  · exact launches_sub h
  · rw [spawns_sub]; decide
/-! what is dead and isn't begun wants no process -/
theorem dead_quiet {e : En} {s : S} (h1 : s.sub = 1) (h : ¬(tellsB e s = true ∧ (toldS e s).1.sub ≠ 9)) (h0 : s.out = []) : ∀ a ∈ (toldS e s).1.out, a.f0 ≠ 1 := by
  have none : ∀ a ∈ ([] : List S41), a.f0 ≠ 1 := fun a ha => by cases ha
  cases ht : tellsB e s with
  | true =>
    rw [told_tells ht] at h ⊢
    simp only [ht, true_and, Classical.not_not] at h
    have hlo : (limitedS e s).1.out = [] := by unfold limitedS; split; exact h0; split <;> exact h0
    unfold beginsS beginsG at h ⊢
    cases hp : (limitedS e s).2 with
    | true =>
      rw [if_pos rfl]
      intro a ha
      have : a ∈ [(⟨3, 0, 0, 0, ⟨#[]⟩, 9223372036854775807⟩ : S41), ⟨5, 0, 0, 2, ⟨#[]⟩, 0⟩] := by
        have hx : (resultS (idleS { (limitedS e s).1 with sub := 9, result := 2 }) 2).out = (limitedS e s).1.out ++ [(⟨3, 0, 0, 0, ⟨#[]⟩, 9223372036854775807⟩ : S41)] ++ [⟨5, 0, 0, 2, ⟨#[]⟩, 0⟩] := rfl
        rw [hlo] at hx
        have ha2 : a ∈ (resultS (idleS { (limitedS e s).1 with sub := 9, result := 2 }) 2).out := ha
        rw [hx] at ha2
        exact ha2
      simp only [List.mem_cons, List.not_mem_nil, or_false] at this
      rcases this with rfl | rfl <;> decide
    | false =>
      rw [hp, if_neg (by decide)] at h
      exact absurd h (prepares_sub rfl)
  | false =>
    have hs1 : (s.sub == 1) = true := by rw [h1]; decide
    have hn : ∀ n : Int, n ≠ 1 → (s.sub == n) = false := fun n hn => by rw [h1]; exact beq_eq_false_iff_ne.2 (fun e => hn e.symm)
    unfold tellsB at ht
    rw [hs1] at ht
    simp only [Bool.true_or, Bool.and_true, Bool.or_eq_false_iff] at ht
    unfold toldS
    rw [ht.1]
    simp only [Bool.false_eq_true, if_false]
    split
    · unfold stopS
      rw [hn 10 (by decide), hs1]
      simp only [Bool.true_or, Bool.false_eq_true, if_false, if_true]
      intro a ha
      have hx : a ∈ s.out ++ [(⟨5, 0, 0, 1, ⟨#[]⟩, 0⟩ : S41)] := ha
      rw [h0] at hx
      simp only [List.nil_append, List.mem_singleton] at hx
      subst hx
      decide
    · split
      · have hf : (s.sub == 7 || s.sub == 8) = false := by rw [hn 7 (by decide), hn 8 (by decide)]; rfl
        unfold exitS
        rw [hf]
        have hc : controlledS e s = { s with control := 0 } := by unfold controlledS; rw [hn 2 (by decide), hn 3 (by decide), hn 6 (by decide)]; simp only [Bool.false_eq_true, if_false]
        have hm : mainedS e s = { s with main := 0 } := by unfold mainedS; rw [hn 3 (by decide), hn 4 (by decide)]; simp only [Bool.false_eq_true, if_false]
        have ho : ∀ s' : S, overS e s' false = s' := fun s' => by unfold overS; rw [Bool.false_and, if_neg (by decide)]
        rw [ho, ho, hc, hm]
        repeat' split
        all_goals (show ∀ a ∈ s.out, a.f0 ≠ 1; rw [h0]; exact none)
      · split
        · unfold noteS
          rw [hn 3 (by decide), hn 4 (by decide)]
          simp only [Bool.and_false, Bool.false_and, Bool.false_eq_true, if_false]
          split <;> (show ∀ a ∈ s.out, a.f0 ≠ 1; rw [h0]; exact none)
        · split
          · unfold timeS
            rw [hn 2 (by decide), hn 3 (by decide), hn 6 (by decide), hn 7 (by decide), hn 8 (by decide), hn 10 (by decide)]
            simp only [Bool.or_false, Bool.false_eq_true, if_false]
            rw [h0]; exact none
          · split
            · rw [hn 4 (by decide)]
              simp only [Bool.false_and, Bool.false_eq_true, if_false]
              rw [h0]; exact none
            · split
              · unfold emptyS
                rw [hn 7 (by decide), hn 8 (by decide), hn 4 (by decide)]
                simp only [Bool.or_false, Bool.false_and, Bool.false_eq_true, if_false]
                rw [h0]; exact none
              · split
                · unfold spawnedS
                  split
                  · unfold spawnedG
                    dsimp only
                    rw [hn 2 (by decide), hn 3 (by decide), hn 6 (by decide)]
                    simp only [Bool.or_false, Bool.false_and, Bool.false_eq_true, if_false]
                    split <;> (show ∀ a ∈ s.out, a.f0 ≠ 1; rw [h0]; exact none)
                  · rw [h0]; exact none
                · rw [h0]; exact none
/-! the starts that were let begin -/
theorem addF_small {x I : Int} (h0 : 0 ≤ x) (h1 : x ≤ 1000000) (h2 : 1 ≤ I) (h3 : I ≤ 1073741824) : addF x I = x + I := by
  have hw : wrap64 (x + I) = x + I := by unfold wrap64; omega
  unfold addF span_Add.f
  rw [if_neg (by omega), hw]
  show (if (I == 9223372036854775807) = true then (some 9223372036854775807) else (if x > 0 then (if I > 0 then (span_Add.j1 4 x I (x + I) (decide (x + I < 0))) else (span_Add.j1 4 x I (x + I) false)) else (span_Add.j1 4 x I (x + I) false)) : Option Int).getD 0 = x + I
  rw [if_neg (by simp only [beq_iff_eq]; omega)]
  have hd : decide (x + I < 0) = false := decide_eq_false (by omega)
  have hj : ∀ b, b = false → span_Add.j1 4 x I (x + I) b = some (x + I) := fun b hb => by
    subst hb
    show (if false = true then (some 9223372036854775807) else (if x < 0 then (if I < 0 then (if x + I ≥ 0 then (some (-9223372036854775808)) else (some (x + I))) else (some (x + I))) else (some (x + I))) : Option Int) = _
    rw [if_neg (by decide), if_neg (by omega)]
  rw [hd]
  split
  · split
    · rw [hj _ rfl]; rfl
    · rw [hj _ rfl]; rfl
  · rw [hj _ rfl]; rfl
theorem filter_suffix (I now : Int) (p : Int → Bool) : ∀ l : List Int, (∀ x ∈ l, p x = decide (now < x + I)) → l.Pairwise (· ≤ ·) → ∃ d, l = d ++ l.filter p ∧ ∀ x ∈ d, x + I ≤ now := by
  intro l
  induction l with
  | nil => exact fun _ _ => ⟨[], rfl, fun x hx => by cases hx⟩
  | cons a l ih =>
    intro hp hs
    rw [List.pairwise_cons] at hs
    by_cases ha : now < a + I
    · refine ⟨[], ?_, fun x hx => by cases hx⟩
      rw [List.nil_append, List.filter_eq_self.2]
      intro x hx
      rw [hp x hx, decide_eq_true_eq]
      rcases List.mem_cons.1 hx with rfl | hx
      · exact ha
      · have := hs.1 x hx; omega
    · obtain ⟨d, h1, h2⟩ := ih (fun x hx => hp x (List.mem_cons_of_mem _ hx)) hs.2
      refine ⟨a :: d, ?_, ?_⟩
      · rw [List.filter_cons_of_neg (by rw [hp a List.mem_cons_self, decide_eq_true_eq]; exact ha), List.cons_append, ← h1]
      · intro x hx
        rcases List.mem_cons.1 hx with rfl | hx
        · omega
        · exact h2 x hx
structure LimI (I now : Int) (begun starts : List Int) : Prop where
  d : ∃ d, begun = d ++ starts ∧ ∀ x, x ∈ d → x + I ≤ now
  so : begun.Pairwise (· ≤ ·)
  bd : ∀ x, x ∈ begun → 0 ≤ x ∧ x ≤ now
def Sp (I : Int) (b : Nat) (l : List Int) : Prop := ∀ i x y, l[i]? = some x → l[i + b]? = some y → I ≤ y - x
theorem LimI.starts {I now : Int} {begun starts : List Int} (h : LimI I now begun starts) : starts.length ≤ begun.length ∧ starts.Pairwise (· ≤ ·) ∧ ∀ x, x ∈ starts → 0 ≤ x ∧ x ≤ now := by
  obtain ⟨d, hd, _⟩ := h.d
  have h1 := h.so
  have h2 := h.bd
  rw [hd] at h1 h2 ⊢
  refine ⟨by rw [List.length_append]; omega, (List.pairwise_append.1 h1).2.1, fun x hx => h2 x (List.mem_append_right _ hx)⟩
theorem LimI.later {I now now' : Int} {begun starts : List Int} (h : LimI I now begun starts) (hn : now ≤ now') : LimI I now' begun starts := by
  obtain ⟨d, hd, hx⟩ := h.d
  exact ⟨⟨d, hd, fun x hm => by have := hx x hm; omega⟩, h.so, fun x hm => ⟨(h.bd x hm).1, by have := (h.bd x hm).2; omega⟩⟩
theorem last_mem {l : List Int} {x : Int} (h : l.getLast? = some x) : x ∈ l := by
  obtain ⟨ys, rfl⟩ := List.getLast?_eq_some_iff.1 h
  simp
/-- told a start, or not -/
theorem lim_told {e : En} {s : S} {now : Int} {begun : List Int} (h : LimI e.ivl now begun s.starts) (hsp : Sp e.ivl e.burst.toNat begun) (hn : now ≤ e.now) (hm : e.now ≤ 1000000) (h0 : 0 ≤ e.now)
    (b0 : 1 ≤ e.burst) (b1 : e.burst ≤ 100) (i0 : 1 ≤ e.ivl) (i1 : e.ivl ≤ 1073741824) :
    LimI e.ivl e.now (if (tellsB e s && (toldS e s).1.sub != 9) = true then begun ++ [e.now] else begun) (toldS e s).1.starts ∧ Sp e.ivl e.burst.toNat (if (tellsB e s && (toldS e s).1.sub != 9) = true then begun ++ [e.now] else begun) := by
  have hl := h.later hn
  cases ht : tellsB e s with
  | false =>
    rw [Bool.false_and, if_neg (by decide), told_quiet ht]
    exact ⟨hl, hsp⟩
  | true =>
    rw [told_tells ht]
    obtain ⟨hs1, hs2, hs3⟩ := hl.starts
    obtain ⟨d2, hd2, hx2⟩ := filter_suffix e.ivl e.now (keepB e) s.starts (fun x hx => by unfold keepB; rw [addF_small (hs3 x hx).1 (by have := (hs3 x hx).2; omega) i0 i1]) hs2
    obtain ⟨d, hd, hx⟩ := hl.d
    obtain ⟨L, hL⟩ : ∃ L, s.starts.filter (keepB e) = L := ⟨_, rfl⟩
    have hd3 : begun = (d ++ d2) ++ L := by rw [hd, List.append_assoc, ← hL, ← hd2]
    have hx3 : ∀ x, x ∈ d ++ d2 → x + e.ivl ≤ e.now := fun x hm => by
      rcases List.mem_append.1 hm with hm | hm
      · exact hx x hm
      · exact hx2 x hm
    have hlim : limitedS e s = if e.burst ≤ (L.length : Int) then ({ s with starts := L }, true) else ({ s with starts := (L ++ [lastF e L]).drop (L.length - 99) }, false) := by
      unfold limitedS
      rw [if_neg (by simp only [Bool.or_eq_true, decide_eq_true_eq]; omega), hL]
    unfold beginsS beginsG
    rw [hlim]
    by_cases hq : e.burst ≤ (L.length : Int)
    · rw [if_pos hq]
      dsimp only
      simp only [if_true, Bool.true_and]
      have hsub : ((resultS (idleS { s with starts := L, sub := 9, result := 2 }) 2).sub != 9) = false := by show ((9 : Int) != 9) = false; decide
      rw [hsub, if_neg Bool.false_ne_true]
      exact ⟨⟨⟨d ++ d2, hd3, hx3⟩, hl.so, hl.bd⟩, hsp⟩
    · rw [if_neg hq]
      dsimp only
      simp only [Bool.false_eq_true, if_false, Bool.true_and]
      have hdrop : L.length - 99 = 0 := by omega
      have hlast : lastF e L = e.now := by
        unfold lastF
        cases hg : L.getLast? with
        | none => rfl
        | some x =>
          have hm2 : x ∈ begun := by rw [hd3]; exact List.mem_append_right _ (last_mem hg)
          have := (hl.bd x hm2).2
          show max e.now x = e.now
          omega
      rw [hdrop, List.drop_zero, hlast]
      have hsub : ((preparesS e { s with starts := L ++ [e.now], stopping := false, result := 0, main := 0, control := 0, next := 0 }).sub != 9) = true := by
        rw [bne_iff_ne]; exact prepares_sub rfl
      rw [hsub, if_pos rfl, prepares_st]
      refine ⟨⟨⟨d ++ d2, by rw [hd3, List.append_assoc], hx3⟩, ?_, ?_⟩, ?_⟩
      · exact List.pairwise_append.2 ⟨hl.so, List.pairwise_singleton _ _, fun x hx y hy => by rw [List.mem_singleton.1 hy]; exact (hl.bd x hx).2⟩
      · intro x hm2
        rcases List.mem_append.1 hm2 with hm2 | hm2
        · exact hl.bd x hm2
        · rw [List.mem_singleton.1 hm2]; exact ⟨h0, Int.le_refl _⟩
      · intro i x y hi hy
        by_cases hlt : i + e.burst.toNat < begun.length
        · rw [List.getElem?_append_left (by omega)] at hi
          rw [List.getElem?_append_left hlt] at hy
          exact hsp i x y hi hy
        · have hlen : i + e.burst.toNat < (begun ++ [e.now]).length := (List.getElem?_eq_some_iff.1 hy).1
          rw [List.length_append, List.length_singleton] at hlen
          have he : i + e.burst.toNat = begun.length := by omega
          rw [he, List.getElem?_append_right (Nat.le_refl _), Nat.sub_self] at hy
          obtain rfl : e.now = y := by simpa using hy
          have hbl : begun.length = (d ++ d2).length + L.length := by rw [hd3, List.length_append]
          have hi2 : i < (d ++ d2).length := by omega
          rw [hd3, List.append_assoc, List.getElem?_append_left hi2] at hi
          have := hx3 x (List.mem_of_getElem? hi)
          omega
/-- the step whole -/
theorem lim_step {u : U0} {e : En} {s s2 : S} {acts : List S41} {er now : Int} {begun : List Int} (hst : stepS u e s = (s2, acts, er)) (h : LimI e.ivl now begun s.starts) (hsp : Sp e.ivl e.burst.toNat begun) (hn : now ≤ e.now) (hm : e.now ≤ 1000000) (h0 : 0 ≤ e.now)
    (b0 : 1 ≤ e.burst) (b1 : e.burst ≤ 100) (i0 : 1 ≤ e.ivl) (i1 : e.ivl ≤ 1073741824) :
    (er = 200 ∧ LimI e.ivl e.now begun s.starts) ∨ (er = 0 ∧ LimI e.ivl e.now (if (tellsB e s && s2.sub != 9) = true then begun ++ [e.now] else begun) s2.starts ∧ Sp e.ivl e.burst.toNat (if (tellsB e s && s2.sub != 9) = true then begun ++ [e.now] else begun) ∧
      ((tellsB e s && s2.sub != 9) = false → s.sub = 1 → ∀ a, a ∈ acts → a.f0 ≠ 1)) := by
  unfold stepS at hst
  split at hst
  · split at hst
    · injection hst with h1 h2
      injection h2 with h2 h3
      subst h3
      subst h2
      have ht := lim_told (s := { s with out := [] }) h hsp hn hm h0 b0 b1 i0 i1
      rw [show tellsB e { s with out := [] } = tellsB e s from rfl, h1] at ht
      refine .inr ⟨rfl, ht.1, ht.2, fun h9 hs1 => ?_⟩
      refine dead_quiet (s := { s with out := [] }) hs1 ?_ rfl
      rw [show tellsB e { s with out := [] } = tellsB e s from rfl, h1]
      rintro ⟨h3, h4⟩
      rw [h3, Bool.true_and] at h9
      rw [bne_eq_false_iff_eq] at h9
      exact h4 h9
    · injection hst with h1 h2
      injection h2 with h2 h3
      exact .inl ⟨h3.symm, h.later hn⟩
  · injection hst with h1 h2
    injection h2 with h2 h3
    exact .inl ⟨h3.symm, h.later hn⟩
end Go.Proofs.Ytnoddedgkgkfhaa.Svc
