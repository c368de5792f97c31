/- Signals to all, failures, processes begun. -/
import Derived.Test.YtnoddedgkgkfhaaSvcD
namespace Go.Proofs.Ytnoddedgkgkfhaa.Svc
open Go.RowKit Go.Proofs.YtnoddedgkgkfhaaW.PrintWords Go.Proofs.YtnoddedgkgkfhaaW.PrintLast
attribute [local go_sem] Oper.semAt_some
set_option linter.unusedVariables false
def failsS (e : En) (s : S) (r : Int) : S := termsS e (resultS s r) r
def spawnsS (e : En) (s : S) (sub : Int) (l : List ByteArray) (within : Int) (stops : Bool) : S :=
  let s2 := timerS { s with sub := sub, waiting := true } (afterS e within)
  let s3 := if stops = true then watchS e s2 9223372036854775807 else s2
  add s3 ⟨1, 0, 0, 0, l.getD s.next.toNat ⟨#[]⟩, 0⟩
theorem str_at {w : World} {A : Option Addr} {n : Nat} {xs : List ByteArray} (h : Kd.C Kd.string w A n xs) (i : Int) (h0 : 0 ≤ i) (h1 : i < n) : ∃ ad, A = some ad ∧ w.cell? (ad.add i.toNat) = some (.string (xs.getD i.toNat ⟨#[]⟩)) := by
  obtain ⟨ad, c, e, _, hK, hc0⟩ := Kd.C_get h ⟨#[]⟩ i h0 h1
  have hc : ∀ j u, c[j]? = some u → w.cell? (ad.add (i.toNat * 1 + j)) = some u := hc0
  obtain rfl : c = [.string (xs.getD i.toNat ⟨#[]⟩)] := hK
  have := hc 0 _ rfl
  rw [Nat.mul_one, Nat.add_zero] at this
  exact ⟨ad, e, this⟩
variable {w0 W : World} {b : Nat} {e : En} {s : S}
set_option maxRecDepth 100000
set_option maxHeartbeats 2000000
theorem terms_calls (hI : Inv w0 W b e s) (r : Int) (hn : s.out.length ≤ 980) :
    Calls Try.prog 45 #[.pointer (some ⟨b, 0, none⟩), .int .i64 r] W fun e' W' => e' = .returned (.tuple #[]) ∧ Inv w0 W' b e (termsS e s r) := by
  unfold termsS
  have hl1 : ({ spoilsS s r with waiting := false } : S).out.length ≤ 980 := by rw [show ({ spoilsS s r with waiting := false } : S).out = (spoilsS s r).out from rfl, spoils_len]; exact hn
  obtain ⟨s1, hs1⟩ : ∃ s1, ({ spoilsS s r with waiting := false } : S) = s1 := ⟨_, rfl⟩
  rw [hs1] at hl1 ⊢
  unfold termsG
  have HS1 := Aside0.mk hs1
  clear hs1
  have hl2 : s1.out.length ≤ 990 := Nat.le_trans hl1 (by decide)
  have hl3 : ({ s1 with sub := 7 } : S).out.length ≤ 1000 := Nat.le_trans hl1 (by decide)
  have hl4 : (timerS { s1 with sub := 7 } (afterS e e.tsec)).out.length ≤ 1000 := by rw [timer_len]; exact Nat.le_trans (Nat.succ_le_succ hl1) (by decide)
  have hl5 : (watchS e (timerS { s1 with sub := 7 } (afterS e e.tsec)) 9223372036854775807).out.length ≤ 998 := Nat.le_trans (watch_len _ _ _) (by rw [timer_len]; exact Nat.le_trans (Nat.succ_le_succ (Nat.succ_le_succ hl1)) (by decide))
  cases h1 : (e.kil == 3) with
  | true =>
    rw [Bool.true_or, if_pos rfl]
    go_enter Try.func45, Try.ntmps45
    go_wp2_with (first | (go_at_call 62; refine (spoils_calls hI r).mono ?_; rintro e' w1 ⟨rfl, hI1⟩; obtain ⟨vs1, vo1, hc1⟩ := hI1.cs; have fr1 := hc1.fr; have k401 : w1.cell? ⟨b, 40, none⟩ = some (.bool (spoilsS s r).waiting) := hc1.c40; have k131 : w1.cell? ⟨b, 13, none⟩ = some (.int .i64 e.kil) := hc1.c13; clear hc1; have hJ := hI1.set40 false; rw [HS1.out] at hJ; obtain ⟨vsj, voj, hcj⟩ := hJ.cs; have frj := hcj.fr; have k33j : (w1.setCell ⟨b, 40, none⟩ (.bool false)).cell? ⟨b, 33, none⟩ = some (.int .i64 (s1).sub) := hcj.c33; have k19j : (w1.setCell ⟨b, 40, none⟩ (.bool false)).cell? ⟨b, 19, none⟩ = some (.int .i64 e.tsec) := hcj.c19; clear hcj) | (go_at_call 63; refine (ends_calls hJ hl2).mono ?_; rintro e' w2 ⟨rfl, hI2⟩))
    first | go_end0 | ((try simp only [Exit.inBlock, Exit.then]); refine bodyPost_ret (results_none rfl _ _ _) rfl ?_)
    exact ⟨rfl, hI2⟩
  | false =>
    cases h2 : aloneS e s1 with
    | true =>
      rw [Bool.false_or, if_pos rfl]
      go_enter Try.func45, Try.ntmps45
      go_wp2_with (first | (go_at_call 62; refine (spoils_calls hI r).mono ?_; rintro e' w1 ⟨rfl, hI1⟩; obtain ⟨vs1, vo1, hc1⟩ := hI1.cs; have fr1 := hc1.fr; have k401 : w1.cell? ⟨b, 40, none⟩ = some (.bool (spoilsS s r).waiting) := hc1.c40; have k131 : w1.cell? ⟨b, 13, none⟩ = some (.int .i64 e.kil) := hc1.c13; clear hc1; have hJ := hI1.set40 false; rw [HS1.out] at hJ; obtain ⟨vsj, voj, hcj⟩ := hJ.cs; have frj := hcj.fr; have k33j : (w1.setCell ⟨b, 40, none⟩ (.bool false)).cell? ⟨b, 33, none⟩ = some (.int .i64 (s1).sub) := hcj.c33; have k19j : (w1.setCell ⟨b, 40, none⟩ (.bool false)).cell? ⟨b, 19, none⟩ = some (.int .i64 e.tsec) := hcj.c19; clear hcj) | (go_at_call 64; refine (alone_calls hJ).mono ?_; rintro e' w2 ⟨rfl, hI2⟩; obtain ⟨vs2, vo2, hc2⟩ := hI2.cs; have fr2 := hc2.fr; have k332 : w2.cell? ⟨b, 33, none⟩ = some (.int .i64 (s1).sub) := hc2.c33; have k192 : w2.cell? ⟨b, 19, none⟩ = some (.int .i64 e.tsec) := hc2.c19; clear hc2) | (go_at_call 63; refine (ends_calls hI2 hl2).mono ?_; rintro e' w3 ⟨rfl, hI3⟩))
      first | go_end0 | ((try simp only [Exit.inBlock, Exit.then]); refine bodyPost_ret (results_none rfl _ _ _) rfl ?_)
      exact ⟨rfl, hI3⟩
    | false =>
      rw [Bool.false_or, if_neg (by decide)]
      go_enter Try.func45, Try.ntmps45
      go_wp2_with (first | (go_at_call 62; refine (spoils_calls hI r).mono ?_; rintro e' w1 ⟨rfl, hI1⟩; obtain ⟨vs1, vo1, hc1⟩ := hI1.cs; have fr1 := hc1.fr; have k401 : w1.cell? ⟨b, 40, none⟩ = some (.bool (spoilsS s r).waiting) := hc1.c40; have k131 : w1.cell? ⟨b, 13, none⟩ = some (.int .i64 e.kil) := hc1.c13; clear hc1; have hJ := hI1.set40 false; rw [HS1.out] at hJ; obtain ⟨vsj, voj, hcj⟩ := hJ.cs; have frj := hcj.fr; have k33j : (w1.setCell ⟨b, 40, none⟩ (.bool false)).cell? ⟨b, 33, none⟩ = some (.int .i64 (s1).sub) := hcj.c33; have k19j : (w1.setCell ⟨b, 40, none⟩ (.bool false)).cell? ⟨b, 19, none⟩ = some (.int .i64 e.tsec) := hcj.c19; clear hcj) | (go_at_call 64; refine (alone_calls hJ).mono ?_; rintro e' w2 ⟨rfl, hI2⟩; obtain ⟨vs2, vo2, hc2⟩ := hI2.cs; have fr2 := hc2.fr; have k332 : w2.cell? ⟨b, 33, none⟩ = some (.int .i64 (s1).sub) := hc2.c33; have k192 : w2.cell? ⟨b, 19, none⟩ = some (.int .i64 e.tsec) := hc2.c19; clear hc2) | (go_at_call 58; refine (after_calls (hI2.set33 7) _).mono ?_; rintro e' w3 ⟨rfl, hI3⟩) | (go_at_call 60; refine (timer_calls hI3 _ hl3).mono ?_; rintro e' w4 ⟨rfl, hI4⟩) | (go_at_call 57; refine (watch_calls hI4 _ hl4).mono ?_; rintro e' w5 ⟨rfl, hI5⟩) | (go_at_call 61; refine (kills_calls hI5 _ hl5).mono ?_; rintro e' w6 ⟨rfl, hI6⟩))
      first | go_end0 | ((try simp only [Exit.inBlock, Exit.then]); refine bodyPost_ret (results_none rfl _ _ _) rfl ?_)
      exact ⟨rfl, hI6⟩
theorem fails_calls (hI : Inv w0 W b e s) (r : Int) (hn : s.out.length ≤ 970) :
    Calls Try.prog 59 #[.pointer (some ⟨b, 0, none⟩), .int .i64 r] W fun e' W' => e' = .returned (.tuple #[]) ∧ Inv w0 W' b e (failsS e s r) := by
  have hl1 : s.out.length ≤ 1000 := Nat.le_trans hn (by decide)
  have hl2 : (resultS s r).out.length ≤ 980 := by rw [result_len]; exact Nat.le_trans (Nat.succ_le_succ hn) (by decide)
  go_enter Try.func59, Try.ntmps59
  go_wp2_with (first | (go_at_call 50; refine (result_calls hI r hl1).mono ?_; rintro e' w1 ⟨rfl, hI1⟩) | (go_at_call 45; refine (terms_calls hI1 r hl2).mono ?_; rintro e' w2 ⟨rfl, hI2⟩))
  first | go_end0 | ((try simp only [Exit.inBlock, Exit.then]); refine bodyPost_ret (results_none rfl _ _ _) rfl ?_)
  exact ⟨rfl, hI2⟩
theorem spawns_no (hI : Inv w0 W b e s) (sub : Int) (A : Option Addr) (l : List ByteArray) (c : Nat) (within : Int) (stops : Bool) (h : (l.length : Int) ≤ s.next) :
    Calls Try.prog 68 #[.pointer (some ⟨b, 0, none⟩), .int .i64 sub, .slice A l.length c, .int .i64 within, .bool stops] W fun e' W' => e' = .returned (.bool false) ∧ Inv w0 W' b e s := by
  obtain ⟨vs0, vo0, hc0⟩ := hI.cs
  have fr0 := hc0.fr
  have k360 : W.cell? ⟨b, 36, none⟩ = some (.int .i64 (s).next) := hc0.c36
  clear hc0
  have hd : decide ((l.length : Int) ≤ s.next) = true := decide_eq_true h
  clear h
  go_enter Try.func68, Try.ntmps68
  go_wp2
  go_ret
  exact ⟨rfl, hI⟩
theorem watch_next (e : En) (s : S) (t : Int) : (watchS e s t).next = s.next := by unfold watchS; split <;> rfl
theorem Inv.old {w0 W : World} {b : Nat} {e : En} {s : S} (h : Inv w0 W b e s) (hb : w0.heap.size ≤ b) {p : Addr} (hp : p.block < w0.heap.size) : W.cell? p = w0.cell? p := by
  obtain ⟨vs, vo, _, _, _, h4⟩ := h
  exact h4.cell (Nat.lt_of_lt_of_le hp hb)
theorem spawns_yes (hI : Inv w0 W b e s) (hb : w0.heap.size ≤ b) (sub : Int) (A : Option Addr) (l : List ByteArray) (c : Nat) (within : Int) (stops : Bool) (hA : Kd.C Kd.string w0 A l.length l) (h0 : 0 ≤ s.next) (h : s.next < (l.length : Int)) (hn : s.out.length ≤ 990) :
    Calls Try.prog 68 #[.pointer (some ⟨b, 0, none⟩), .int .i64 sub, .slice A l.length c, .int .i64 within, .bool stops] W fun e' W' => e' = .returned (.bool true) ∧ Inv w0 W' b e (spawnsS e s sub l within stops) := by
  obtain ⟨ad, rfl, hxc⟩ := str_at hA s.next h0 h
  unfold spawnsS
  dsimp only
  obtain ⟨x, hx0⟩ : ∃ x, l.getD s.next.toNat ⟨#[]⟩ = x := ⟨_, rfl⟩
  rw [hx0] at hxc ⊢
  clear hx0
  have hx := World.block_lt_of_cell? w0 _ hxc
  obtain ⟨vs0, vo0, hc0⟩ := hI.cs
  have fr0 := hc0.fr
  have k360 : W.cell? ⟨b, 36, none⟩ = some (.int .i64 (s).next) := hc0.c36
  have k330 : W.cell? ⟨b, 33, none⟩ = some (.int .i64 (s).sub) := hc0.c33
  have k400 : W.cell? ⟨b, 40, none⟩ = some (.bool (s).waiting) := hc0.c40
  clear hc0
  have hd : decide ((l.length : Int) ≤ s.next) = false := decide_eq_false (Int.not_le.2 h)
  have hl1 : ({ s with sub := sub, waiting := true } : S).out.length ≤ 1000 := Nat.le_trans hn (by decide)
  have hl2 : (timerS { s with sub := sub, waiting := true } (afterS e within)).out.length ≤ 1000 := by rw [timer_len]; exact Nat.le_trans (Nat.succ_le_succ hn) (by decide)
  have hl3 : (watchS e (timerS { s with sub := sub, waiting := true } (afterS e within)) 9223372036854775807).out.length ≤ 1000 := Nat.le_trans (watch_len _ _ _) (by rw [timer_len]; exact Nat.le_trans (Nat.succ_le_succ (Nat.succ_le_succ hn)) (by decide))
  cases stops with
  | false =>
    rw [if_neg (by decide)]
    go_enter Try.func68, Try.ntmps68
    go_wp2_with (first | (go_at_call 58; refine (after_calls ((hI.set33 sub).set40 true) _).mono ?_; rintro e' w1 ⟨rfl, hI1⟩) | (go_at_call 60; refine (timer_calls hI1 _ hl1).mono ?_; rintro e' w2 ⟨rfl, hI2⟩; obtain ⟨vs2, vo2, hc2⟩ := hI2.cs; have k362 : w2.cell? ⟨b, 36, none⟩ = some (.int .i64 s.next) := hc2.c36; clear hc2; have kx := (hI2.old hb hx).trans hxc) | (go_at_call 67; refine (wants_calls w0 _ b e _ (hI2.alloc _) _ ⟨1, 0, 0, 0, x, 0⟩ (six_new _ _) hl2).mono ?_; rintro e' w5 ⟨rfl, hI5⟩))
    go_ret
    exact ⟨rfl, hI5⟩
  | true =>
    rw [if_pos rfl]
    go_enter Try.func68, Try.ntmps68
    go_wp2_with (first | (go_at_call 58; refine (after_calls ((hI.set33 sub).set40 true) _).mono ?_; rintro e' w1 ⟨rfl, hI1⟩) | (go_at_call 60; refine (timer_calls hI1 _ hl1).mono ?_; rintro e' w2 ⟨rfl, hI2⟩) | (go_at_call 57; refine (watch_calls hI2 _ hl2).mono ?_; rintro e' w3 ⟨rfl, hI3⟩; obtain ⟨vs3, vo3, hc3⟩ := hI3.cs; have k363 : w3.cell? ⟨b, 36, none⟩ = some (.int .i64 s.next) := hc3.c36.trans (by rw [watch_next]; rfl); clear hc3; have kx := (hI3.old hb hx).trans hxc) | (go_at_call 67; refine (wants_calls w0 _ b e _ (hI3.alloc _) _ ⟨1, 0, 0, 0, x, 0⟩ (six_new _ _) hl3).mono ?_; rintro e' w5 ⟨rfl, hI5⟩))
    go_ret
    exact ⟨rfl, hI5⟩
end Go.Proofs.Ytnoddedgkgkfhaa.Svc
