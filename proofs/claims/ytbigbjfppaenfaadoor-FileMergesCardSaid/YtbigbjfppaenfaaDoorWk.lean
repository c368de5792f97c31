/- FileMerges, walked. -/
import Derived.Test.YtbigbjfppaenfaaDoorWl
import Derived.Test.YtbigbjfppaenfaaDoorWe
import Derived.Test.YtbigbjfppaenfaaDoorMSame
namespace Go.Proofs.YtbigbjfppaenfaaDoor.Lines
open Go.RowKit Go.Shelf Go.Proofs.YtbigbjfppaenfaaDoorW.PrintWords Go.Proofs.YtbigbjfppaenfaaDoorW.PrintLast
attribute [local go_sem] Oper.semAt_some
attribute [local go_sem high] eqA37
attribute [local go_sem high] eqA69
set_option linter.unusedVariables false
set_option linter.unusedSimpArgs false
set_option maxRecDepth 100000 in
set_option maxHeartbeats 8000000 in
theorem merges_in (n : Nat) (hn : 12 ≤ n) (A0 : Option Addr) (c0 : Nat) (l0 : List S25) (sec key : ByteArray) (stop : Int) (w : World) (hr0 : Kd.C k25 w A0 l0.length l0) (hc0 : l0.length ≤ c0) (hG : GW w)
    (h0 : l0.length < 9223372036854775807) (hL : ∀ f ∈ l0, f.f0.length < 576460752303423488) (hT : ∀ f ∈ l0, ∀ s ∈ f.f0, s.f0.size < 3074457345618258602 ∧ s.f1.size < 3074457345618258602 ∧ s.f2.size < 3074457345618258602) :
    CallsIn Fence.wide n Tryd.prog 6 #[.slice A0 l0.length c0, .string sec, .string key, .int .i64 stop] w fun e w' => e = .returned (.bool true) ∧ Below w.heap.size w w' := by
  have hmix : Tryd.prog.follows .mixedOrders = true := by kernel_rfl
  obtain ⟨kS, rS, hkS, hrS⟩ := small_all l0 h0 hL
  have hkn := fun X (hX : Below w.heap.size w X) => (callsIn_wide (n := n - 1)).2 (reveillelaw6_known.calls true X rfl (hG.below hX))
  have hsm := fun X (hX : Below w.heap.size w X) => (callsIn_wide (n := n - 1)).2 (reveillelaw6_small.calls kS A0 c0 l0 rS X (Kd.C_below hr0 hX) hc0 hkS)
  refine callsIn_of_wp Tryd.func6 rfl trivial ?_ rfl
  simp only [Tryd.ntmps6, List.size_toArray, List.length_cons, List.length_nil, Nat.reduceAdd, Nat.reduceSub, Array.replicate_succ, Array.replicate_zero, List.push_toArray, List.append_toArray, List.nil_append, List.cons_append]
  obtain ⟨n0, hn0⟩ : ∃ n0, w.heap.size = n0 := ⟨_, rfl⟩
  gi_wp2
  obtain ⟨w1, hw1⟩ : ∃ w1, w.alloc (Obj.cells #[Value.int IntKind.i64 stop] 3) = w1 := ⟨_, rfl⟩
  rw [hw1]
  have t1 : Turn (fun _ => False) w w1 := by rw [← hw1]; exact Turn.alloc _ _
  have hs1 : Boxed w1 n0 3 (.int .i64 stop) := by rw [← hw1, ← hn0]; exact Boxed.new w 3 _
  have hg1 : Gr n0 w w1 := (⟨hn0, Below.refl _ _⟩ : Gr n0 w w).turn t1
  refine ⟨trivial, (fun h => by cases h), ?_⟩
  refine (hkn w1 (by rw [hn0]; exact hg1.bel)).mono ?_
  rintro e w3 ⟨rfl, hb3⟩
  have t3 : Turn (fun _ => False) w1 w3 := Turn.below hb3 (Nat.le_refl _)
  have hs3 := t3.boxed hs1 (fun h => h)
  have hg3 := hg1.turn t3
  gi_wp2
  refine ⟨trivial, (fun h => by cases h), ?_⟩
  refine (hsm w3 (by rw [hn0]; exact hg3.bel)).mono ?_
  rintro e W5 ⟨rfl, hb5⟩
  have t5 : Turn (fun _ => False) w3 W5 := Turn.below hb5 (Nat.le_refl _)
  have hs5 := t5.boxed hs3 (fun h => h)
  have hg5 := hg3.turn t5
  clear hkn hsm
  cases rS with
  | false =>
    gi_wp2
    refine bodyPost_ret (results_tmp rfl _ _ _) rfl ?_
    exact ⟨rfl, by rw [hn0]; exact hg5.bel⟩
  | true =>
    obtain ⟨hl12, hl200, hfits⟩ := hrS rfl
    obtain ⟨hcnt, hsh, hT5⟩ := merges_plain hl200 hfits hT
    obtain ⟨kM, hkM⟩ := ref_merge l0 (by omega) (by have : (l0.flatMap (fun f => f.f0)).length ≤ 200 := hl200; omega)
    obtain ⟨rr, hrr⟩ : ∃ rr, (flatF l0).foldl mstep [] = rr := ⟨_, rfl⟩
    have hkM2 : reveilleref6_Merge.f kM l0 = some rr := by rw [← hrr]; exact hkM
    obtain ⟨hrl, hrs⟩ := merged_plain hl200 hT5 hrr
    clear hfits hrS hkS hL hT h0 hkM
    gi_wp2
    refine ⟨trivial, (fun h => by cases h), ?_⟩
    refine (merge_in (n - 1) (by omega) A0 c0 l0 W5 (hg5.files hr0) hcnt hsh).mono ?_
    rw [hrr]
    rintro e w6 ⟨v1, rfl, hv6, hb6⟩
    obtain ⟨A1, c1, rfl⟩ := own_slice hv6
    have t6 : Turn (fun _ => False) W5 w6 := Turn.below hb6 (Nat.le_refl _)
    have hs6 := t6.boxed hs5 (fun h => h)
    have hg6 := hg5.turn t6
    have u6 := Rw.of_own hv6
    clear hv6 hb6
    gi_wp2
    refine ⟨trivial, (fun h => by cases h), ?_⟩
    refine (callsIn_wide.2 (reveilleref6_Merge.calls kM A0 c0 l0 rr w6 (hg6.files hr0) hc0 hkM2)).mono ?_
    rintro e w7 ⟨v2, rfl, hv7, hb7⟩
    obtain ⟨A2, c2, rfl⟩ := Kd.R_slice hv7
    have t7 : Turn (fun _ => False) w6 w7 := Turn.below hb7 (Nat.le_refl _)
    have hs7 := t7.boxed hs6 (fun h => h)
    have hg7 := hg6.turn t7
    have u7 := u6.turn t7
    have v7 := Rw.of_R hv7
    clear hv7 hb7
    gi_wp2
    obtain ⟨bm, hbm⟩ : ∃ bm, w7.heap.size = bm := ⟨_, rfl⟩
    obtain ⟨w8, hw8⟩ : ∃ w8, (w7.alloc (Obj.cells #[Value.slice A1 rr.length c1] 25)).alloc (Obj.cells #[Value.slice A2 rr.length c2] 25) = w8 := ⟨_, rfl⟩
    rw [hbm, hw8]
    have t8 : Turn (fun _ => False) w7 w8 := by rw [← hw8]; exact (Turn.alloc _ _).trans (Turn.alloc _ _)
    have m8 : Boxed w8 bm 25 (.slice A1 rr.length c1) := by rw [← hw8, ← hbm]; exact (Boxed.new w7 25 _).alloc _
    have r8 : Boxed w8 (bm + 1) 25 (.slice A2 rr.length c2) := by
      rw [← hw8, ← hbm]
      have := Boxed.new (w7.alloc (Obj.cells #[Value.slice A1 rr.length c1] 25)) 25 (.slice A2 rr.length c2)
      rw [World.size_alloc] at this
      exact this
    have hs8 := t8.boxed hs7 (fun h => h)
    have hg8 := hg7.turn t8
    have u8 := u7.turn t8
    have v8 := v7.turn t8
    have hbm0 : n0 < bm := by have := hs7.lt; omega
    obtain ⟨hpW, hpw, hpl, hpm⟩ := print_fits hrl hrs
    obtain ⟨kP, hkP⟩ := ref_print rr (by omega) (by omega) hpw
    obtain ⟨kSm, hkSm⟩ := same_self rr (by omega)
    refine wpIn_region_held (fun w' => w'.cell? ⟨bm, 0, none⟩ = some (.slice A1 rr.length c1) ∧ w'.cell? ⟨bm + 1, 0, none⟩ = some (.slice A2 rr.length c2)) hmix ?_
    have HS8 : w8.drew.cell? ⟨bm, 0, none⟩ = some (.slice A1 rr.length c1) ∧ w8.drew.cell? ⟨bm + 1, 0, none⟩ = some (.slice A2 rr.length c2) := ⟨m8.cell, r8.cell⟩
    refine wpAnyInH_take (i := 0) (v := ?v1) rfl (by kernel_rfl) (by kernel_rfl) (by kernel_rfl) (by kernel_rfl) (fun _ _ _ h => h) ⟨Or.inl ⟨rfl, ?hy1⟩, fun _ => rfl⟩ HS8 ?r1
    case hy1 => (intro w' hS'; obtain ⟨z0, z1⟩ := hS'; go_simp <;> with_reducible rfl)
    refine wpAnyInH_take (i := 1) (v := ?v2) rfl (by kernel_rfl) (by kernel_rfl) (by kernel_rfl) (by kernel_rfl) (fun _ _ _ h => h) ⟨Or.inl ⟨rfl, ?hy2⟩, fun _ => rfl⟩ HS8 ?r2
    case hy2 => (intro w' hS'; obtain ⟨z0, z1⟩ := hS'; go_simp <;> with_reducible rfl)
    refine wpAnyInH_one (i := 2) (by kernel_rfl) rfl ?_
    intro K hK
    go_simp
    refine ⟨trivial, (fun h => by cases h), ?_⟩
    refine (callsIn_wide.2 (reveilleref6_Same.calls kSm A1 c1 rr A2 c2 rr true w8.drew u8.rd u8.cap v8.rd v8.cap hkSm)).mono ?_
    rintro e w9 ⟨rfl, hb9⟩
    have t9 : Turn (fun _ => False) w8 w9 := (Turn.drew w8).trans (Turn.below hb9 (Nat.le_refl _))
    have m9 := t9.boxed m8 (fun h => h)
    have r9 := t9.boxed r8 (fun h => h)
    have u9 := u8.turn t9
    have v9 := v8.turn t9
    have hs9 := t9.boxed hs8 (fun h => h)
    have hg9 := hg8.turn t9
    have HS9 := And.intro m9.cell r9.cell
    refine hK _ _ HS9 ?_
    clear hK K
    refine wpAnyInH_act (a' := ?a3) ?e3 ?r3
    case e3 => (go_simp <;> with_reducible rfl)
    refine wpAnyInH_take (i := 3) (v := ?v4) rfl (by kernel_rfl) (by kernel_rfl) (by kernel_rfl) (by kernel_rfl) (fun _ _ _ h => h) ⟨Or.inl ⟨rfl, ?hy4⟩, fun _ => rfl⟩ HS9 ?r4
    case hy4 => (intro w' hS'; obtain ⟨z0, z1⟩ := hS'; go_simp <;> with_reducible rfl)
    refine wpAnyInH_take (i := 4) (v := ?v5) rfl (by kernel_rfl) (by kernel_rfl) (by kernel_rfl) (by kernel_rfl) (fun _ _ _ h => h) ⟨Or.inl ⟨rfl, ?hy5⟩, fun _ => rfl⟩ HS9 ?r5
    case hy5 => (intro w' hS'; obtain ⟨z0, z1⟩ := hS'; go_simp <;> with_reducible rfl)
    refine wpAnyInH_act (a' := ?a6) ?e6 ?r6
    case e6 => (go_simp <;> with_reducible rfl)
    refine wpAnyInH_take (i := 5) (v := ?v7) rfl (by kernel_rfl) (by kernel_rfl) (by kernel_rfl) (by kernel_rfl) (fun _ _ _ h => h) ⟨Or.inl ⟨rfl, ?hy7⟩, fun _ => rfl⟩ HS9 ?r7
    case hy7 => (intro w' hS'; obtain ⟨z0, z1⟩ := hS'; go_simp <;> with_reducible rfl)
    refine wpAnyInH_take (i := 7) (v := ?v8) rfl (by kernel_rfl) (by kernel_rfl) (by kernel_rfl) (by kernel_rfl) (fun _ _ _ h => h) ⟨Or.inl ⟨rfl, ?hy8⟩, fun _ => rfl⟩ HS9 ?r8
    case hy8 => (intro w' hS'; obtain ⟨z0, z1⟩ := hS'; go_simp <;> with_reducible rfl)
    refine wpAnyInH_act (a' := ?a9) ?e9 ?r9
    case e9 => (go_simp <;> with_reducible rfl)
    refine wpAnyInH_one (i := 6) (by kernel_rfl) rfl ?_
    intro K hK
    go_simp
    refine ⟨trivial, (fun h => by cases h), ?_⟩
    refine (callsIn_wide.2 (print_calls A2 c2 rr w9 v9.rd v9.row hpm (by omega) hpW)).mono ?_
    rintro e w10 ⟨rfl, hb10⟩
    have t10 : Turn (fun _ => False) w9 w10 := Turn.below hb10 (Nat.le_refl _)
    have m10 := t10.boxed m9 (fun h => h)
    have r10 := t10.boxed r9 (fun h => h)
    have u10 := u9.turn t10
    have v10 := v9.turn t10
    have hs10 := t10.boxed hs9 (fun h => h)
    have hg10 := hg9.turn t10
    have HS10 := And.intro m10.cell r10.cell
    refine hK _ _ HS10 ?_
    clear hK K
    refine wpAnyInH_act (a' := ?a10) ?e10 ?r10
    case e10 => (go_simp <;> with_reducible rfl)
    refine wpAnyInH_one (i := 8) (by kernel_rfl) rfl ?_
    intro K hK
    go_simp
    refine ⟨trivial, (fun h => by cases h), ?_⟩
    refine (callsIn_wide.2 (reveilleref6_Print.calls kP A2 c2 rr _ w10 v10.rd v10.cap hkP)).mono ?_
    rintro e w11 ⟨rfl, hb11⟩
    have t11 : Turn (fun _ => False) w10 w11 := Turn.below hb11 (Nat.le_refl _)
    have m11 := t11.boxed m10 (fun h => h)
    have r11 := t11.boxed r10 (fun h => h)
    have u11 := u10.turn t11
    have v11 := v10.turn t11
    have hs11 := t11.boxed hs10 (fun h => h)
    have hg11 := hg10.turn t11
    have HS11 := And.intro m11.cell r11.cell
    refine hK _ _ HS11 ?_
    clear hK K
    refine wpAnyInH_act (a' := ?a11) ?e11 ?r11
    case e11 => (go_simp <;> with_reducible rfl)
    refine wpAnyInH_take (i := 9) (v := ?v12) rfl (by kernel_rfl) (by kernel_rfl) (by kernel_rfl) (by kernel_rfl) (fun _ _ _ h => h) ⟨Or.inl ⟨rfl, ?hy12⟩, fun _ => rfl⟩ HS11 ?r12
    case hy12 => (intro w' hS'; obtain ⟨z0, z1⟩ := hS'; go_simp <;> with_reducible rfl)
    refine wpAnyInH_take (i := 10) (v := ?v13) rfl (by kernel_rfl) (by kernel_rfl) (by kernel_rfl) (by kernel_rfl) (fun _ _ _ h => h) ⟨Or.inl ⟨rfl, ?hy13⟩, fun _ => rfl⟩ HS11 ?r13
    case hy13 => (intro w' hS'; obtain ⟨z0, z1⟩ := hS'; go_simp <;> with_reducible rfl)
    refine wpAnyInH_act (a' := ?a14) ?e14 ?r14
    case e14 => (go_simp <;> with_reducible rfl)
    refine wpAnyInH_done (by kernel_rfl) ?_ _
    have HPL := Aside0.mk hpl
    have HPM := Aside0.mk hpm
    clear hpl hpm hpw hcnt hsh hT5 hl12 hl200
    obtain ⟨h, hh⟩ : ∃ h, w11.heap.size = h := ⟨_, rfl⟩
    obtain ⟨w12, hw12⟩ : ∃ w12, (w11.alloc (Obj.cells #[Value.slice none 0 0] 50)).alloc (Obj.cells #[Value.slice none 0 0] 39) = w12 := ⟨_, rfl⟩
    have t12 : Turn (fun _ => False) w11 w12 := by rw [← hw12]; exact (Turn.alloc _ _).trans (Turn.alloc _ _)
    have r12 := t12.boxed r11 (fun h => h)
    have r12c := r12.cell
    have hsz12 : w12.heap.size = h + 2 := by rw [← hw12, ← hh]; simp
    clear HS8 HS9 HS10 HS11 hpW hkP hkSm
    gi_wp2_with (refine ⟨trivial, (fun h => by cases h), ?_⟩; refine (callsIn_wide.2 (all_calls A2 rr.length c2 sec key w12)).mono ?_; rintro e w13 ⟨rfl, rfl⟩)
    obtain ⟨w13, hw13⟩ : ∃ w13, ((w12.alloc (.cells #[.slice A2 rr.length c2] 25)).alloc (.cells #[.string sec] 9)).alloc (.cells #[.string key] 9) = w13 := ⟨_, rfl⟩
    rw [hw13]
    have t13 : Turn (fun _ => False) w12 w13 := by rw [← hw13]; exact ((Turn.alloc _ _).trans (Turn.alloc _ _)).trans (Turn.alloc _ _)
    have hsz13 : w13.heap.size = h + 5 := by rw [← hw13]; simp [hsz12]
    have ha13 : Boxed w13 h 50 (.slice none 0 0) := by
      refine t13.boxed ?_ (fun h => h)
      rw [← hw12, ← hh]
      exact (Boxed.new w11 50 _).alloc _
    have hb13 : Boxed w13 (h + 1) 39 (.slice none 0 0) := by
      refine t13.boxed ?_ (fun h => h)
      rw [← hw12, ← hh]
      have := Boxed.new (w11.alloc (Obj.cells #[Value.slice none 0 0] 50)) 39 (.slice none 0 0)
      rw [World.size_alloc] at this
      exact this
    have k1 : Boxed w13 (h + 2) 25 (.slice A2 rr.length c2) := by
      rw [← hw13, ← hsz12]
      exact ((Boxed.new w12 25 _).alloc _).alloc _
    have k2 : Boxed w13 (h + 3) 9 (.string sec) := by
      have := Boxed.new (w12.alloc (.cells #[.slice A2 rr.length c2] 25)) 9 (.string sec)
      rw [World.size_alloc, hsz12] at this
      rw [← hw13]
      exact this.alloc _
    have k3 : Boxed w13 (h + 4) 9 (.string key) := by
      have := Boxed.new ((w12.alloc (.cells #[.slice A2 rr.length c2] 25)).alloc (.cells #[.string sec] 9)) 9 (.string key)
      rw [World.size_alloc, World.size_alloc, hsz12] at this
      rw [← hw13]
      exact this
    have hs13 := t13.boxed (t12.boxed hs11 (fun h => h)) (fun h => h)
    have r13 := t13.boxed r12 (fun h => h)
    have v13 := (v11.turn t12).turn t13
    have hg13 := (hg11.turn t12).turn t13
    have hAb : ∀ ad, A2 = some ad → ad.block < h := fun ad e => by obtain ⟨cs, fr, hr⟩ := v11.row ad e; have := (Array.getElem?_eq_some_iff.1 hr).1; omega
    have hbr : bm + 1 < h := by have := r11.lt; omega
    clear r12c
    refine ⟨trivial, (fun h => by cases h), ?_⟩
    refine (col_in (n - 1) (by omega) n0 h stop rr A2 c2 sec key w13 hrl (by omega) hs13 ha13 hb13 k1 k2 k3 hsz13 v13 hAb).mono ?_
    rintro e W14 ⟨⟨vv, rfl⟩, pv, qv, hC, hT⟩
    have r14 := hT.boxed r13 (by omega)
    have v14 := v13.far hT (fun ad e => by have := hAb ad e; omega)
    have hg14 := hg13.turnq hT (by omega)
    clear ha13 hb13 k1 k2 k3
    obtain ⟨hits, hhits⟩ : ∃ hits, hitsF sec key 0 rr = hits := ⟨_, rfl⟩
    rw [hhits] at hC
    obtain ⟨col, hcol⟩ : ∃ col, lim stop hits = col := ⟨_, rfl⟩
    rw [hcol] at hC
    gi_wp2
    gi_loopw [13, 14, 15, 16] (fun va vl vt vi wr => ∃ k : Nat, vi = .int .i64 (k : Int) ∧ k ≤ rr.length ∧ va = .int .i64 ((lim stop (hitsF sec key 0 (rr.take k))).length : Int) ∧ vl = .string (lastOf (hitsF sec key 0 (rr.take k))).1 ∧ vt = .bool (lastOf (hitsF sec key 0 (rr.take k))).2 ∧ Turn (fun _ => False) W14 wr)
      (fun va vl vt vi wr => rr.length - (intOf vi).toNat)
    case atStart => exact ⟨0, rfl, Nat.zero_le _, by simp [hitsF, lim], rfl, rfl, Turn.refl _ _⟩
    case round =>
      obtain ⟨k, rfl, hk, rfl, rfl, rfl, hTr⟩ := hrel
      have rk := hTr.boxed r14 (fun h => h)
      have vk := v14.turn hTr
      have Ck := hC.turn0 hTr
      have rkc := rk.cell
      by_cases hlt : k < rr.length
      · have e0 : 0 ≤ (k : Int) := Int.natCast_nonneg k
        have e1 : (k : Int) < (rr.length : Int) := Int.ofNat_lt.2 hlt
        have hw1 : wrap64 ((k : Int) + 1) = ((k + 1 : Nat) : Int) := wrap_up (Nat.lt_of_lt_of_le hlt (Nat.le_trans hrl (by decide)))
        obtain ⟨ad, eA, q0, q1, q2, q3⟩ := at_T37 vk.rd (k : Int) e0 e1
        obtain rfl : A2 = some ad := eA
        simp only [Int.toNat_natCast] at q0 q1 q2 q3
        have hrd : rd_T37 rr (k : Int) = rr[k] := rdm37 hlt
        rw [hrd] at q0 q1 q2 q3
        have d1 : decide ((k : Int) < (rr.length : Int)) = true := decide_eq_true e1
        have d2 : (0 ≤ (k : Int)) = True := eq_true e0
        have d3 : ((k : Int) < (rr.length : Int)) = True := eq_true e1
        have d4 : (k < rr.length) = True := eq_true hlt
        obtain ⟨w2, hw2⟩ : ∃ w2, wr.alloc (.cells #[.string (rr[k]).f0, .string (rr[k]).f1, .string (rr[k]).f2, .int .i64 (rr[k]).f3] 37) = w2 := ⟨_, rfl⟩
        have ht2 : Turn (fun _ => False) wr w2 := by rw [← hw2]; exact Turn.alloc _ _
        have hx2 : w2.heap[wr.heap.size]? = some (.cells #[.string (rr[k]).f0, .string (rr[k]).f1, .string (rr[k]).f2, .int .i64 (rr[k]).f3] 37 (0, 0)) := by rw [← hw2]; exact World.alloc_heap_new wr _
        obtain ⟨x0, x1, x2, x3⟩ := cells4_of hx2
        have hsub := hitsF_step (sec := sec) (key := key) hlt
        obtain ⟨hk0, hhk⟩ : ∃ hk0, hitsF sec key 0 (rr.take k) = hk0 := ⟨_, rfl⟩
        rw [hhk] at hsub ⊢
        obtain ⟨at0, hat⟩ : ∃ at0, (lim stop hk0).length = at0 := ⟨_, rfl⟩
        rw [hat]
        have s2 := ht2.boxed Ck.s (fun h => h)
        have s2c := s2.cell
        have hT2 : Turn (fun _ => False) W14 w2 := hTr.trans ht2
        have HRL := Aside0.mk hrl
        have HFIN := Aside0.mk (fin_ok (n := rr.length) hw1 hlt)
        clear hw1
        have HAT := Aside0.mk hat
        have hcolmax : col.length ≤ 9223372036854775807 := by rw [← hcol, ← hhits]; exact Nat.le_trans (lim_le _ _) (Nat.le_trans (hits_few sec key rr hrl) (by decide))
        clear hn0 hbm hsz12 hsz13 hbm0 hbr hc0 hrl hk hh
        cases hb0 : ((rr[k]).f0.toList == sec.toList) with
        | false =>
          have hb0n : ((rr[k]).f0.toList != sec.toList) = true := by simp [bne, hb0]
          have hnh : hit sec key (rr[k]) = false := by rw [← eq_hit, hb0]; rfl
          rw [hnh] at hsub
          clear hat hcolmax e0 e1
          --D1
          gi_wp2
          exact ⟨⟨k + 1, HFIN.out.1, hlt, by rw [hsub]; simp [HAT.out], by rw [hsub]; simp, by rw [hsub]; simp, hT2⟩, HFIN.out.2⟩
        | true =>
          have hb0n : ((rr[k]).f0.toList != sec.toList) = false := by simp [bne, hb0]
          cases hb1 : ((rr[k]).f1.toList == key.toList) with
          | false =>
            have hb1n : ((rr[k]).f1.toList != key.toList) = true := by simp [bne, hb1]
            have hnh : hit sec key (rr[k]) = false := by rw [← eq_hit, hb0, hb1]; rfl
            rw [hnh] at hsub
            clear hat hcolmax e0 e1
            --D2
            gi_wp2
            exact ⟨⟨k + 1, HFIN.out.1, hlt, by rw [hsub]; simp [HAT.out], by rw [hsub]; simp, by rw [hsub]; simp, hT2⟩, HFIN.out.2⟩
          | true =>
            have hb1n : ((rr[k]).f1.toList != key.toList) = false := by simp [bne, hb1]
            have hnh : hit sec key (rr[k]) = true := by rw [← eq_hit, hb0, hb1]; rfl
            rw [hnh, if_pos rfl] at hsub
            by_cases hst : 1 ≤ stop ∧ stop ≤ (at0 : Int)
            · have hs1 : decide (1 ≤ stop) = true := decide_eq_true hst.1
              have hs2 : decide (stop ≤ (at0 : Int)) = true := decide_eq_true hst.2
              have hlf := lim_full hst.1 (by rw [hat]; exact hst.2) [(k, (rr[k]).f2)]
              have HLF := Aside0.mk hlf
              clear hlf hst hat hcolmax e0 e1
              --D3
              gi_wp2
              exact ⟨⟨k + 1, HFIN.out.1, hlt, by rw [hsub, HLF.out, HAT.out], by rw [hsub, lastOf_snoc], by rw [hsub, lastOf_snoc], hT2⟩, HFIN.out.2⟩
            · have hs12 : (decide (1 ≤ stop) && decide (stop ≤ (at0 : Int))) = false := by
                rw [← Bool.not_eq_true, Bool.and_eq_true, decide_eq_true_eq, decide_eq_true_eq]
                exact hst
              obtain ⟨hln1, hln2⟩ := lim_next (n := stop) (a := hk0) (by rw [hat]; exact hst) (k, (rr[k]).f2) (hitsF sec key (k + 1) (rr.drop (k + 1)))
              rw [hat] at hln1 hln2
              have hall : hk0 ++ (k, (rr[k]).f2) :: hitsF sec key (k + 1) (rr.drop (k + 1)) = hits := by
                rw [← hhits, hitsF_rest k (Nat.le_of_lt hlt), hhk, hitsF_drop hlt, if_pos hnh]
              rw [hall, hcol] at hln1
              have hcl : at0 < col.length := (List.getElem?_eq_some_iff.1 hln1).1
              obtain ⟨Ap, cp, rfl⟩ := own_slice Ck.p
              obtain ⟨Aq, cq, rfl⟩ := own_slice Ck.q
              have C2 := Ck.turn0 ht2
              obtain ⟨ap, hap, hcp⟩ := row_cell C2.p (j := at0) (u := .int .i64 (k : Int)) (by simp [intsV, hln1])
              obtain ⟨aq, haq, hcq⟩ := row_cell C2.q (j := at0) (u := .string (rr[k]).f2) (by simp [strsV, hln1])
              subst hap
              subst haq
              have hac := C2.a.cell
              have hbc := C2.b.cell
              have g1 : (0 ≤ (at0 : Int)) = True := eq_true (Int.natCast_nonneg at0)
              have g2 : ((at0 : Int) < ((col.map Prod.fst).length : Int)) = True := eq_true (by simp; exact hcl)
              have g3 : (at0 < (col.map Prod.fst).length) = True := eq_true (by simp; exact hcl)
              have g4 : decide (((col.map Prod.fst).length : Int) ≤ (at0 : Int)) = false := decide_eq_false (by simp; exact hcl)
              have g5 : ((at0 : Int) < ((col.map Prod.snd).length : Int)) = True := eq_true (by simp; exact hcl)
              have g6 : (at0 < (col.map Prod.snd).length) = True := eq_true (by simp; exact hcl)
              have g7 : (at0 < col.length) = True := eq_true hcl
              have g8 : decide ((col.length : Int) ≤ (at0 : Int)) = false := decide_eq_false (by simp; exact hcl)
              have g9 : ((at0 : Int) < (col.length : Int)) = True := eq_true (by simp; exact hcl)
              have g10 : decide (col.length ≤ at0) = false := decide_eq_false (Nat.not_le_of_lt hcl)
              have g11 : (col.length ≤ at0) = False := eq_false (Nat.not_le_of_lt hcl)
              have g12 : ((col.length : Int) ≤ (at0 : Int)) = False := eq_false (by simp; exact hcl)
              have HWA := Aside0.mk (fin_ok (n := at0 + 1) (wrap_up (Nat.lt_of_lt_of_le hcl hcolmax)) (Nat.lt_succ_self at0)).1
              have HLN := Aside0.mk hln2
              clear hln2 hln1 hst hat hcolmax hcl e0 e1
              cases hsa : decide (1 ≤ stop) with
              | false =>
                --D4
                gi_wp2
                first | gi_region_o | fail
                all_goals gi_wp2
                all_goals exact ⟨⟨k + 1, HFIN.out.1, hlt, by rw [hsub, HLN.out]; exact HWA.out, by rw [hsub, lastOf_snoc], by rw [hsub, lastOf_snoc], hT2.trans (Turn.drew _)⟩, HFIN.out.2⟩
              | true =>
                have hsb : decide (stop ≤ (at0 : Int)) = false := by rw [hsa] at hs12; simpa using hs12
                --D5
                gi_wp2
                first | gi_region_o | fail
                all_goals gi_wp2
                all_goals exact ⟨⟨k + 1, HFIN.out.1, hlt, by rw [hsub, HLN.out]; exact HWA.out, by rw [hsub, lastOf_snoc], by rw [hsub, lastOf_snoc], hT2.trans (Turn.drew _)⟩, HFIN.out.2⟩
      · obtain rfl : k = rr.length := by omega
        rw [List.take_length, hhits, hcol]
        have hAk : ∀ ad, A2 = some ad → ad.block < wr.heap.size := fun ad e => by obtain ⟨cs, fr, hr⟩ := vk.row ad e; exact (Array.getElem?_eq_some_iff.1 hr).1
        have hla := callsIn_wide (n := n - 1) |>.2 (last_calls A2 c2 rr sec key wr vk.rd hAk)
        rw [hhits] at hla
        have HRL := Aside0.mk hrl
        have HN := Aside0.mk hn
        have HG := Aside0.mk hg14
        have HN0 := Aside0.mk hn0
        have HT := Aside0.mk hT
        obtain ⟨Ap, cp, rfl⟩ := own_slice Ck.p
        have hpl2 : (col.map Prod.fst).length = col.length := by simp
        have HC := Aside0.mk Ck
        have hf1 : decide ((rr.length : Int) < (rr.length : Int)) = false := decide_eq_false (Int.lt_irrefl _)
        clear hbm hsz12 hsz13 hbm0 hbr hc0 hrl hk hlt hn
        gi_wp2
        refine ⟨trivial, (fun h => by cases h), ?_⟩
        refine hla.mono ?_
        rintro e w24 ⟨rfl, hb24⟩
        have t24 : Turn (fun _ => False) wr w24 := Turn.below hb24 (Nat.le_refl _)
        have a24 := (t24.boxed HC.out.a (fun h => h)).cell
        obtain ⟨h2, hh2⟩ : ∃ h2, w24.heap.size = h2 := ⟨_, rfl⟩
        obtain ⟨w25, hw25⟩ : ∃ w25, w24.alloc (.cells #[.slice none 0 0] 39) = w25 := ⟨_, rfl⟩
        have t25 : Turn (fun _ => False) w24 w25 := by rw [← hw25]; exact Turn.alloc _ _
        have r25 := t25.boxed (t24.boxed rk (fun h => h)) (fun h => h)
        have r25c := r25.cell
        have n25 : Boxed w25 h2 39 (.slice none 0 0) := by rw [← hw25, ← hh2]; exact Boxed.new w24 39 _
        have v25 := (vk.turn t24).turn t25
        have hsz25 : w25.heap.size = h2 + 1 := by rw [← hw25, ← hh2]; simp
        have HSZ := Aside0.mk hsz25
        clear hsz25
        gi_wp2_with (refine ⟨trivial, (fun h => by cases h), ?_⟩; refine (callsIn_wide.2 (sections_calls A2 rr.length c2 w25)).mono ?_; rintro e w26 ⟨rfl, rfl⟩)
        rw [HSZ.out]
        obtain ⟨w26, hw26⟩ : ∃ w26, w25.alloc (.cells #[.slice A2 rr.length c2] 25) = w26 := ⟨_, rfl⟩
        rw [hw26]
        have t26 : Turn (fun _ => False) w25 w26 := by rw [← hw26]; exact Turn.alloc _ _
        have k26 : Boxed w26 (h2 + 1) 25 (.slice A2 rr.length c2) := by rw [← hw26, ← HSZ.out]; exact Boxed.new w25 25 _
        have hsz26 : w26.heap.size = h2 + 2 := by rw [← hw26]; simp [HSZ.out]
        have v26 := v25.turn t26
        have n26 := t26.boxed n25 (fun h => h)
        have r26 := t26.boxed r25 (fun h => h)
        have hAh : ∀ ad, A2 = some ad → ad.block < h2 := fun ad e => by obtain ⟨cs, fr, hr⟩ := (vk.turn t24).row ad e; rw [← hh2]; exact (Array.getElem?_eq_some_iff.1 hr).1
        have hrh : bm + 1 < h2 := by rw [← hh2]; exact (t24.boxed rk (fun h => h)).lt
        have hg26 := (((HG.out.turn hTr).turn t24).turn t25).turn t26
        have hnh : n0 < h2 := by rw [← hh2]; exact Nat.lt_of_lt_of_le (HC.out.s.lt) t24.size
        refine ⟨trivial, (fun h => by cases h), ?_⟩
        refine (secs_in (n - 1) (five_le HN.out) h2 rr A2 c2 w26 HRL.out n26 k26 hsz26 v26 hAh HPM.out HPL.out).mono ?_
        rintro e w27 ⟨⟨v27_, rfl⟩, An, cn, hB27, hR27, hT27⟩
        have r27 := hT27.boxed r26 (q_ne hrh)
        have v27 := v26.far hT27 (fun ad e => q_ne (hAh ad e))
        have hg27 := hg26.turnq hT27 (fun k hk => q_ne (Nat.lt_trans hk hnh))
        clear hsz26 hrh hnh
        obtain ⟨kSc, hkSc⟩ := ref_sections rr (ref_lt HRL.out)
        obtain ⟨kT, hkT⟩ := texts_self (rr.foldl sstep []) (sec_lt HPL.out)
        gi_wp2
        refine wpIn_region_held (fun w' => w'.cell? ⟨h2, 0, none⟩ = some (.slice An (rr.foldl sstep []).length cn) ∧ w'.cell? ⟨bm + 1, 0, none⟩ = some (.slice A2 rr.length c2)) hmix ?_
        have HS27 : w27.drew.cell? ⟨h2, 0, none⟩ = some (.slice An (rr.foldl sstep []).length cn) ∧ w27.drew.cell? ⟨bm + 1, 0, none⟩ = some (.slice A2 rr.length c2) := ⟨hB27.cell, r27.cell⟩
        refine wpAnyInH_take (i := 0) (v := ?v15) rfl (by kernel_rfl) (by kernel_rfl) (by kernel_rfl) (by kernel_rfl) (fun _ _ _ h => h) ⟨Or.inl ⟨rfl, ?hy15⟩, fun _ => rfl⟩ HS27 ?r15
        case hy15 => (intro w' hS'; obtain ⟨z0, z1⟩ := hS'; go_simp <;> with_reducible rfl)
        refine wpAnyInH_take (i := 1) (v := ?v16) rfl (by kernel_rfl) (by kernel_rfl) (by kernel_rfl) (by kernel_rfl) (fun _ _ _ h => h) ⟨Or.inl ⟨rfl, ?hy16⟩, fun _ => rfl⟩ HS27 ?r16
        case hy16 => (intro w' hS'; obtain ⟨z0, z1⟩ := hS'; go_simp <;> with_reducible rfl)
        refine wpAnyInH_one (i := 2) (by kernel_rfl) rfl ?_
        intro K hK
        go_simp
        refine ⟨trivial, (fun h => by cases h), ?_⟩
        refine (callsIn_wide.2 (reveilleref6_Sections.calls kSc A2 c2 rr _ w27.drew v27.rd v27.cap hkSc)).mono ?_
        rintro e w28 ⟨v28, rfl, hR28, hb28⟩
        obtain ⟨A28, c28, rfl, hl28, hC28⟩ := Kd.R_reads hR28
        have t28 : Turn (fun _ => False) w27 w28 := (Turn.drew w27).trans (Turn.below hb28 (Nat.le_refl _))
        have hR28b := t28.row hR27 (fun _ _ h => h)
        have hg28 := hg27.turn t28
        have HS28 := And.intro (t28.boxed hB27 (fun h => h)).cell (t28.boxed r27 (fun h => h)).cell
        refine hK _ _ HS28 ?_
        clear hK K
        refine wpAnyInH_act (a' := ?a17) ?e17 ?r17
        case e17 => (go_simp <;> with_reducible rfl)
        refine wpAnyInH_one (i := 3) (by kernel_rfl) rfl ?_
        intro K hK
        go_simp
        refine ⟨trivial, (fun h => by cases h), ?_⟩
        refine (callsIn_wide.2 (reveillehelp_Texts.calls kT An cn _ A28 c28 _ true w28 (Cstr_own hR28b).1 (Cstr_own hR28b).2 hC28 hl28 hkT)).mono ?_
        rintro e w29 ⟨rfl, hD⟩
        have t29 : Turn (fun _ => False) w28 w29 := by obtain ⟨mm, rfl⟩ := hD; exact Turn.below (pw_below_drewN (Below.refl _ _) mm) (Nat.le_refl _)
        have hg29 := hg28.turn t29
        have HS29 := And.intro (t29.boxed (t28.boxed hB27 (fun h => h)) (fun h => h)).cell (t29.boxed (t28.boxed r27 (fun h => h)) (fun h => h)).cell
        refine hK _ _ HS29 ?_
        clear hK K
        refine wpAnyInH_act (a' := ?a18) ?e18 ?r18
        case e18 => (go_simp <;> with_reducible rfl)
        refine wpAnyInH_take (i := 4) (v := ?v19) rfl (by kernel_rfl) (by kernel_rfl) (by kernel_rfl) (by kernel_rfl) (fun _ _ _ h => h) ⟨Or.inl ⟨rfl, ?hy19⟩, fun _ => rfl⟩ HS29 ?r19
        case hy19 => (intro w' hS'; obtain ⟨z0, z1⟩ := hS'; go_simp <;> with_reducible rfl)
        refine wpAnyInH_act (a' := ?a20) ?e20 ?r20
        case e20 => (go_simp <;> with_reducible rfl)
        refine wpAnyInH_done (by kernel_rfl) ?_ _
        gi_wp2
        refine bodyPost_ret (results_tmp rfl _ _ _) rfl ?_
        exact ⟨rfl, by rw [hn0]; exact hg29.bel⟩
end Go.Proofs.YtbigbjfppaenfaaDoor.Lines
