/- The plain law of ServiceStays: an automaton that may be stays one that may be. -/
import Derived.Test.YtnoddedgkgkfhaaSvcL
namespace Go.Proofs.Ytnoddedgkgkfhaa.Svc
open Go.RowKit
set_option linter.unusedVariables false
/-- what may be, but for the substate -/
structure Base (s : S) : Prop where
  pm : s.main = 0 ∨ 2 ≤ s.main
  pc : s.control = 0 ∨ 2 ≤ s.control
  ne : s.main ≠ s.control ∨ s.main = 0
  n0 : 0 ≤ s.next
  n1 : s.next ≤ 12
  st : s.starts.length ≤ 100
  so : sortB s.starts = true
  r0 : 0 ≤ s.result
  r1 : s.result ≤ 6
structure Good (e : En) (s : S) : Prop where
  b : Base s
  s1 : 1 ≤ s.sub
  s2 : s.sub ≤ 10
  p2 : s.sub = 2 → s.next < e.pre.length
  p3 : s.sub = 3 → s.next < e.sta.length
  p6 : s.sub = 6 → s.next < e.sto.length
theorem Base.add {s : S} (h : Base s) (a : S41) : Base (add s a) := ⟨h.pm, h.pc, h.ne, h.n0, h.n1, h.st, h.so, h.r0, h.r1⟩
theorem Good.add {e : En} {s : S} (h : Good e s) (a : S41) : Good e (add s a) := ⟨h.b.add a, h.s1, h.s2, h.p2, h.p3, h.p6⟩
theorem Base.sub {s : S} (h : Base s) (n : Int) : Base { s with sub := n } := ⟨h.pm, h.pc, h.ne, h.n0, h.n1, h.st, h.so, h.r0, h.r1⟩
theorem Base.watch {e : En} {s : S} (h : Base s) (t : Int) : Base (watchS e s t) := by unfold watchS; split; exact h.add _; exact h
theorem Good.watch {e : En} {s : S} (h : Good e s) (t : Int) : Good e (watchS e s t) := by unfold watchS; split; exact h.add _; exact h
theorem Base.spoils {s : S} (h : Base s) (r : Int) (h0 : 0 ≤ r) (h1 : r ≤ 6) : Base (spoilsS s r) := by
  unfold spoilsS; split
  · exact ⟨h.pm, h.pc, h.ne, h.n0, h.n1, h.st, h.so, h0, h1⟩
  · exact h
theorem Good.kill1 {e : En} {s : S} (h : Good e s) (p g : Int) : Good e (kill1 e s p g) := by unfold Svc.kill1; split; exact h.add _; exact h
theorem Good.kills {e : En} {s : S} (h : Good e s) (g : Int) : Good e (killsS e s g) := by
  unfold killsS; split
  · exact h.add _
  · have := (h.kill1 s.main g).kill1 s.control g
    exact this
theorem good_of {e : En} {s : S} (h : Base s) (n : Int) (h1 : 1 ≤ n) (h2 : n ≤ 10) (h3 : n ≠ 2) (h4 : n ≠ 3) (h5 : n ≠ 6) : Good e { s with sub := n } :=
  ⟨h.sub n, h1, h2, fun e => absurd e h3, fun e => absurd e h4, fun e => absurd e h5⟩
theorem ends_good {e : En} {s : S} (h : Base s) : Good e (endsS e s) := by
  unfold endsS
  dsimp only
  have h0 : Base { s with main := 0, control := 0, next := 0, waiting := false } := ⟨.inl rfl, .inl rfl, .inr rfl, Int.le_refl 0, (show (0 : Int) ≤ 12 by decide), h.st, h.so, h.r0, h.r1⟩
  have h1 : Base (watchS e (idleS { s with main := 0, control := 0, next := 0, waiting := false }) 9223372036854775807) := Base.watch (h0.add _) _
  obtain ⟨s1, hs1⟩ : ∃ s1, watchS e (idleS { s with main := 0, control := 0, next := 0, waiting := false }) 9223372036854775807 = s1 := ⟨_, rfl⟩
  rw [hs1] at h1 ⊢
  have h2 : Base { s1 with result := 0, stopping := false } := ⟨h1.pm, h1.pc, h1.ne, h1.n0, h1.n1, h1.st, h1.so, Int.le_refl 0, (show (0 : Int) ≤ 6 by decide)⟩
  have h3 : Base { s1 with result := 0 } := ⟨h1.pm, h1.pc, h1.ne, h1.n0, h1.n1, h1.st, h1.so, Int.le_refl 0, (show (0 : Int) ≤ 6 by decide)⟩
  split
  · exact (good_of h2 1 (by decide) (by decide) (by decide) (by decide) (by decide)).add _
  · split
    · exact (good_of h3 10 (by decide) (by decide) (by decide) (by decide) (by decide)).add _
    · split
      · exact good_of h1 9 (by decide) (by decide) (by decide) (by decide) (by decide)
      · exact good_of h1 1 (by decide) (by decide) (by decide) (by decide) (by decide)
theorem terms_good {e : En} {s : S} (h : Base s) (r : Int) (h0 : 0 ≤ r) (h1 : r ≤ 6) : Good e (termsS e s r) := by
  unfold termsS
  have h2 := h.spoils r h0 h1
  have h3 : Base { spoilsS s r with waiting := false } := ⟨h2.pm, h2.pc, h2.ne, h2.n0, h2.n1, h2.st, h2.so, h2.r0, h2.r1⟩
  obtain ⟨s1, hs1⟩ : ∃ s1, ({ spoilsS s r with waiting := false } : S) = s1 := ⟨_, rfl⟩
  rw [hs1] at h3 ⊢
  unfold termsG
  split
  · exact ends_good h3
  · exact ((((good_of h3 7 (by decide) (by decide) (by decide) (by decide) (by decide)).add _).watch _)).kills _
theorem fails_good {e : En} {s : S} (h : Base s) (r : Int) (h0 : 0 ≤ r) (h1 : r ≤ 6) : Good e (failsS e s r) := terms_good (h.add _) r h0 h1
theorem started_good {e : En} {s : S} (h : Base s) : Good e (startedS e s) := by
  unfold startedS
  have h3 : Base (resultS (add (idleS s) ⟨6, 0, 0, 0, ⟨#[]⟩, 0⟩) 1) := ((h.add _).add _).add _
  obtain ⟨s3, hs3⟩ : ∃ s3, resultS (add (idleS s) ⟨6, 0, 0, 0, ⟨#[]⟩, 0⟩) 1 = s3 := ⟨_, rfl⟩
  rw [hs3] at h3 ⊢
  unfold startedG
  split
  · exact (good_of h3 4 (by decide) (by decide) (by decide) (by decide) (by decide)).watch _
  · split
    · exact good_of h3 5 (by decide) (by decide) (by decide) (by decide) (by decide)
    · exact terms_good h3 0 (by decide) (by decide)
theorem spawns_good {e : En} {s : S} (h : Base s) (sub : Int) (l : List ByteArray) (w : Int) (b : Bool) (h1 : 1 ≤ sub) (h2 : sub ≤ 10) (p2 : sub = 2 → s.next < e.pre.length) (p3 : sub = 3 → s.next < e.sta.length) (p6 : sub = 6 → s.next < e.sto.length) :
    Good e (spawnsS e s sub l w b) := by
  have h0 : Base { s with sub := sub, waiting := true } := ⟨h.pm, h.pc, h.ne, h.n0, h.n1, h.st, h.so, h.r0, h.r1⟩
  have h3 : Good e (timerS { s with sub := sub, waiting := true } (afterS e w)) := Good.add ⟨h0, h1, h2, p2, p3, p6⟩ _
  unfold spawnsS
  dsimp only
  split
  · exact (h3.watch _).add _
  · exact h3.add _
theorem launches_good {e : En} {s : S} (h : Base s) : Good e (launchesS e s) := by
  unfold launchesS
  split
  · exact started_good h
  · rename_i hn
    exact spawns_good h 3 _ _ _ (by decide) (by decide) (fun e => absurd e (by decide)) (fun _ => Int.not_le.1 hn) (fun e => absurd e (by decide))
theorem Base.zero {s : S} (h : Base s) : Base { s with next := 0 } := ⟨h.pm, h.pc, h.ne, Int.le_refl 0, (show (0 : Int) ≤ 12 by decide), h.st, h.so, h.r0, h.r1⟩
theorem prepares_good {e : En} {s : S} (h : Base s) : Good e (preparesS e s) := by
  unfold preparesS
  split
  · exact launches_good h.zero
  · rename_i hn
    exact spawns_good h 2 _ _ _ (by decide) (by decide) (fun _ => Int.not_le.1 hn) (fun e => absurd e (by decide)) (fun e => absurd e (by decide))
theorem stops_good {e : En} {s : S} (h : Base s) : Good e (stopsS e s) := by
  unfold stopsS
  split
  · exact terms_good h 0 (by decide) (by decide)
  · rename_i hn
    exact spawns_good h 6 _ _ _ (by decide) (by decide) (fun e => absurd e (by decide)) (fun e => absurd e (by decide)) (fun _ => Int.not_le.1 hn)
/-! the row of starts stays level -/
theorem sd_iff (l : List Int) : ∀ n, sdN l n = true ↔ ∀ i, i < n → l.getD i 0 ≤ l.getD (i + 1) 0 := by
  intro n
  induction n with
  | zero => simp [sdN]
  | succ n ih =>
    rw [sdN]
    by_cases h : l.getD (n + 1) 0 < l.getD n 0
    · rw [if_pos h]
      constructor
      · intro h2; cases h2
      · intro h2
        have := h2 n (Nat.lt_succ_self n)
        omega
    · rw [if_neg h, ih]
      constructor
      · intro h2 i hi
        by_cases e : i = n
        · subst e; omega
        · exact h2 i (by omega)
      · intro h2 i hi
        exact h2 i (by omega)
theorem sort_pairwise (l : List Int) : sortB l = true ↔ l.Pairwise (· ≤ ·) := by
  induction l with
  | nil => simp [sortB, sdN]
  | cons a l ih =>
    unfold sortB at ih ⊢
    rw [sd_iff] at ih ⊢
    cases l with
    | nil => simp
    | cons b l =>
      rw [List.pairwise_cons]
      constructor
      · intro h
        have hp := ih.1 (fun i hi => by
          have := h (i + 1) (by simp at hi ⊢; omega)
          simpa using this)
        refine ⟨fun x hx => ?_, hp⟩
        have hab : a ≤ b := by have := h 0 (by simp); simpa using this
        rcases List.mem_cons.1 hx with rfl | hx
        · exact hab
        · exact Int.le_trans hab ((List.pairwise_cons.1 hp).1 x hx)
      · rintro ⟨h1, h2⟩ i hi
        cases i with
        | zero => simpa using h1 b List.mem_cons_self
        | succ i => have := ih.2 h2 i (by simp at hi ⊢; omega); simpa using this
theorem limited_base {e : En} {s : S} (h : Base s) : Base (limitedS e s).1 := by
  have hp := (sort_pairwise s.starts).1 h.so
  have hf : (s.starts.filter (keepB e)).Pairwise (· ≤ ·) := hp.filter _
  have hl : (s.starts.filter (keepB e)).length ≤ 100 := Nat.le_trans (List.length_filter_le _ _) h.st
  unfold limitedS
  split
  · exact ⟨h.pm, h.pc, h.ne, h.n0, h.n1, Nat.zero_le _, rfl, h.r0, h.r1⟩
  · split
    · exact ⟨h.pm, h.pc, h.ne, h.n0, h.n1, hl, (sort_pairwise _).2 hf, h.r0, h.r1⟩
    · refine ⟨h.pm, h.pc, h.ne, h.n0, h.n1, ?_, (sort_pairwise _).2 ?_, h.r0, h.r1⟩
      · show (List.drop _ _).length ≤ 100
        rw [List.length_drop, List.length_append, List.length_singleton]
        omega
      · refine (List.Pairwise.sublist (List.drop_sublist _ _) (List.pairwise_append.2 ⟨hf, List.pairwise_singleton _ _, fun x hx y hy => ?_⟩))
        obtain rfl := List.mem_singleton.1 hy
        unfold lastF
        cases hl2 : (s.starts.filter (keepB e)).getLast? with
        | none =>
          rw [List.getLast?_eq_none_iff] at hl2
          rw [hl2] at hx
          cases hx
        | some z =>
          have hz : x ≤ z := by
            obtain ⟨ys, hys⟩ := List.getLast?_eq_some_iff.1 hl2
            rw [hys] at hx hf
            rcases List.mem_append.1 hx with hx | hx
            · exact (List.pairwise_append.1 hf).2.2 x hx z (List.mem_singleton.2 rfl)
            · rw [List.mem_singleton.1 hx]; exact Int.le_refl _
          exact Int.le_trans hz (Int.le_max_right _ _)
theorem begins_good {e : En} {s : S} (h : Base s) : Good e (beginsS e s) := by
  have hl := limited_base (e := e) h
  unfold beginsS
  obtain ⟨p, hp⟩ : ∃ p, limitedS e s = p := ⟨_, rfl⟩
  rw [hp] at hl ⊢
  unfold beginsG
  split
  · have h2 : Base { p.1 with result := 2 } := ⟨hl.pm, hl.pc, hl.ne, hl.n0, hl.n1, hl.st, hl.so, (show (0 : Int) ≤ 2 by decide), (show (2 : Int) ≤ 6 by decide)⟩
    exact ((good_of h2 9 (by decide) (by decide) (by decide) (by decide) (by decide)).add _).add _
  · exact prepares_good ⟨.inl rfl, .inl rfl, .inr rfl, Int.le_refl 0, (show (0 : Int) ≤ 12 by decide), hl.st, hl.so, Int.le_refl 0, (show (0 : Int) ≤ 6 by decide)⟩
theorem start_good {e : En} {s : S} (h : Good e s) : Good e (startS e s) := by
  unfold startS
  split
  · exact begins_good h.b
  · split
    · exact h.add _
    · split
      · exact h
      · exact h.add _
theorem Base.stopping {s : S} (h : Base s) (x : Bool) : Base { s with stopping := x } := ⟨h.pm, h.pc, h.ne, h.n0, h.n1, h.st, h.so, h.r0, h.r1⟩
theorem stop_good {e : En} {s : S} (h : Good e s) : Good e (stopS e s) := by
  unfold stopS
  split
  · exact ⟨⟨h.b.pm, h.b.pc, h.b.ne, h.b.n0, h.b.n1, h.b.st, h.b.so, h.b.r0, h.b.r1⟩, by show (1 : Int) ≤ 1; decide, by show (1 : Int) ≤ 10; decide, fun e => absurd (show (1 : Int) = 2 from e) (by decide), fun e => absurd (show (1 : Int) = 3 from e) (by decide), fun e => absurd (show (1 : Int) = 6 from e) (by decide)⟩
  · split
    · exact ⟨⟨h.b.pm, h.b.pc, h.b.ne, h.b.n0, h.b.n1, h.b.st, h.b.so, h.b.r0, h.b.r1⟩, h.s1, h.s2, h.p2, h.p3, h.p6⟩
    · split
      · exact stops_good (h.b.stopping true).zero
      · split
        · exact terms_good (h.b.stopping true) 0 (by decide) (by decide)
        · exact ⟨h.b.stopping true, h.s1, h.s2, h.p2, h.p3, h.p6⟩
theorem spawned_good {e : En} {s : S} (h : Good e s) : Good e (spawnedS e s) := by
  unfold spawnedS
  split
  · have h0 : Good e { s with waiting := false } := ⟨⟨h.b.pm, h.b.pc, h.b.ne, h.b.n0, h.b.n1, h.b.st, h.b.so, h.b.r0, h.b.r1⟩, h.s1, h.s2, h.p2, h.p3, h.p6⟩
    obtain ⟨s0, hs0⟩ : ∃ s0, ({ s with waiting := false } : S) = s0 := ⟨_, rfl⟩
    rw [hs0] at h0 ⊢
    unfold spawnedG
    split
    · split
      · exact fails_good h0.b 2 (by decide) (by decide)
      · split
        · exact terms_good h0.b 2 (by decide) (by decide)
        · exact h0
    · rename_i hb
      unfold badP at hb
      simp only [Bool.or_eq_true, decide_eq_true_eq, beq_iff_eq, not_or] at hb
      obtain ⟨⟨hb1, hb2⟩, hb3⟩ := hb
      split
      · exact ⟨⟨h0.b.pm, .inr (by show 2 ≤ e.pid; omega), .inl (by show s0.main ≠ e.pid; omega), h0.b.n0, h0.b.n1, h0.b.st, h0.b.so, h0.b.r0, h0.b.r1⟩, h0.s1, h0.s2, h0.p2, h0.p3, h0.p6⟩
      · have hm : Base { s0 with main := e.pid } := ⟨.inr (by show 2 ≤ e.pid; omega), h0.b.pc, .inl (by show e.pid ≠ s0.control; omega), h0.b.n0, h0.b.n1, h0.b.st, h0.b.so, h0.b.r0, h0.b.r1⟩
        split
        · split
          · exact started_good hm
          · exact ⟨hm, h0.s1, h0.s2, h0.p2, h0.p3, h0.p6⟩
        · exact h0
  · exact h
theorem Base.ctl {s : S} (h : Base s) : Base { s with control := 0 } := ⟨h.pm, .inl rfl, by show s.main ≠ 0 ∨ s.main = 0; omega, h.n0, h.n1, h.st, h.so, h.r0, h.r1⟩
theorem Base.mn {s : S} (h : Base s) : Base { s with main := 0 } := ⟨.inl rfl, h.pc, .inr rfl, h.n0, h.n1, h.st, h.so, h.r0, h.r1⟩
theorem Base.nxt {s : S} (h : Base s) (h1 : s.next < 12) : Base { s with next := s.next + 1 } := ⟨h.pm, h.pc, h.ne, by have := h.n0; show 0 ≤ s.next + 1; omega, by show s.next + 1 ≤ 12; omega, h.st, h.so, h.r0, h.r1⟩
/-- the unit's lists are short -/
def Shorts (e : En) : Prop := e.pre.length ≤ 12 ∧ e.sta.length ≤ 12 ∧ e.sto.length ≤ 12
theorem controlled_good {e : En} {s : S} (hx : Shorts e) (h : Good e s) : Good e (controlledS e s) := by
  unfold controlledS
  split
  · rename_i h2
    have h2 : s.sub = 2 := eq_of_beq h2
    split
    · exact prepares_good (h.b.ctl.nxt (by have := h.p2 h2; have := hx.1; show s.next < 12; omega))
    · exact fails_good h.b.ctl 2 (by decide) (by decide)
  · split
    · split
      · exact started_good h.b.ctl
      · exact fails_good h.b.ctl 2 (by decide) (by decide)
    · split
      · rename_i h6
        have h6 : s.sub = 6 := eq_of_beq h6
        exact stops_good (h.b.ctl.nxt (by have := h.p6 h6; have := hx.2.2; show s.next < 12; omega))
      · exact ⟨h.b.ctl, h.s1, h.s2, h.p2, h.p3, h.p6⟩
theorem mained_good {e : En} {s : S} (hx : Shorts e) (h : Good e s) : Good e (mainedS e s) := by
  unfold mainedS
  split
  · rename_i h3
    have h3 : s.sub = 3 := eq_of_beq h3
    split
    · exact launches_good (h.b.mn.nxt (by have := h.p3 h3; have := hx.2.1; show s.next < 12; omega))
    · exact fails_good h.b.mn 2 (by decide) (by decide)
  · split
    · have hb : Base (if (e.status == 0) = true then { s with main := 0 } else spoilsS { s with main := 0 } 2) := by
        split
        · exact h.b.mn
        · exact h.b.mn.spoils 2 (by decide) (by decide)
      exact stops_good hb.zero
    · exact ⟨h.b.mn, h.s1, h.s2, h.p2, h.p3, h.p6⟩
theorem over_good {e : En} {s : S} (h : Good e s) (x : Bool) : Good e (overS e s x) := by
  unfold overS
  split
  · exact ends_good h.b
  · exact h
theorem exit_good {e : En} {s : S} (hx : Shorts e) (h : Good e s) : Good e (exitS e s) := by
  unfold exitS
  split
  · exact h
  · split
    · exact over_good (controlled_good hx h) _
    · split
      · exact over_good (mained_good hx h) _
      · exact h
theorem time_good {e : En} {s : S} (h : Good e s) : Good e (timeS e s) := by
  unfold timeS
  split
  · exact fails_good h.b 3 (by decide) (by decide)
  · split
    · exact terms_good h.b 3 (by decide) (by decide)
    · split
      · exact ((good_of h.b 8 (by decide) (by decide) (by decide) (by decide) (by decide)).add _).kills _
      · split
        · exact ends_good (h.b.spoils 3 (by decide) (by decide))
        · split
          · exact start_good h
          · exact h
theorem empty_good {e : En} {s : S} (h : Good e s) : Good e (emptyS e s) := by
  unfold emptyS
  split
  · exact ends_good h.b
  · split
    · exact stops_good h.b.zero
    · exact h
theorem note_good {e : En} {s : S} (h : Good e s) : Good e (noteS e s) := by
  unfold noteS
  split
  · exact h
  · split
    · exact started_good h.b
    · split
      · exact h.watch _
      · exact h
theorem told_good {e : En} {s : S} (hx : Shorts e) (h : Good e s) : Good e (toldS e s).1 := by
  unfold toldS
  split
  · exact start_good h
  · split
    · exact stop_good h
    · split
      · exact exit_good hx h
      · split
        · exact note_good h
        · split
          · exact time_good h
          · split
            · show Good e (if _ then _ else _)
              split
              · exact terms_good h.b 3 (by decide) (by decide)
              · exact h
            · split
              · exact empty_good h
              · split
                · exact spawned_good h
                · exact h
theorem mx_shorts {e : En} (h : mxB e = true) : Shorts e := by
  unfold mxB at h
  rw [decide_eq_true_eq] at h
  unfold mxI at h
  unfold Shorts
  split at h <;> split at h <;> omega
theorem isB_base {uk ul : Int} {e : En} {s : S} (h : isB uk ul e s = true) : ul = 1 ∧ uk = 1 ∧ mxB e = true ∧ Base s ∧ 1 ≤ s.sub ∧ s.sub ≤ 10 := by
  unfold isB betB pidB at h
  simp only [Bool.and_eq_true, Bool.or_eq_true, decide_eq_true_eq, beq_iff_eq, bne_iff_ne] at h
  obtain ⟨⟨⟨⟨⟨⟨⟨⟨⟨⟨h1, h2⟩, h3⟩, h4⟩, h5⟩, h6⟩, h7⟩, h8⟩, h9⟩, h10⟩, h11⟩ := h
  exact ⟨h1, h2, h3, ⟨h5, h6, h7, h8.1, h8.2, h9, h10, h11.1, h11.2⟩, h4.1, h4.2⟩
theorem good_isB {uk ul : Int} {e : En} {s : S} (h1 : ul = 1) (h2 : uk = 1) (h3 : mxB e = true) (h : Good e s) : isB uk ul e s = true := by
  unfold isB betB pidB
  simp only [Bool.and_eq_true, Bool.or_eq_true, decide_eq_true_eq, beq_iff_eq, bne_iff_ne]
  exact ⟨⟨⟨⟨⟨⟨⟨⟨⟨⟨h1, h2⟩, h3⟩, h.s1, h.s2⟩, h.b.pm⟩, h.b.pc⟩, h.b.ne⟩, h.b.n0, h.b.n1⟩, h.b.st⟩, h.b.so⟩, h.b.r0, h.b.r1⟩
end Go.Proofs.Ytnoddedgkgkfhaa.Svc
