/- unitfile.All and its iterator, walked. -/
import Derived.Test.YtbigbjfppaenfaaDoorWc
import Derived.Test.YtbigbjfppaenfaaDoorHeld
import Derived.Test.YtbigbjfppaenfaaDoorTurn
import Derived.Test.YtbigbjfppaenfaaDoorMt
namespace Go.Proofs.YtbigbjfppaenfaaDoor.Lines
open Go.RowKit Go.Shelf Go.Proofs.YtbigbjfppaenfaaDoorW.PrintWords Go.Proofs.YtbigbjfppaenfaaDoorW.PrintLast
attribute [local go_sem] Oper.semAt_some
attribute [local go_sem high] eqA37
set_option linter.unusedVariables false
set_option linter.unusedSimpArgs false
theorem eqA69 (d : Nat) (w : World) (x0 y0 : ByteArray) (x1 y1 : ByteArray) :
    (Op.equalIn (d + 2) 69 (.agg #[.string x0, .string x1]) (.agg #[.string y0, .string y1])).run Tryd.prog w = .ok (x0.toList == y0.toList && (x1.toList == y1.toList)) w := by
  refine eqA_of Tryd.underlying69 (by kernel_rfl) ?_
  refine eqf_cons (by rfl) (by go_simp; rfl) (by go_simp; rfl) (by go_simp) ?_
  exact eqf_last (by rfl) (by go_simp; rfl) (by go_simp; rfl) (by go_simp)
attribute [local go_sem high] eqA69
set_option maxRecDepth 100000 in
set_option maxHeartbeats 4000000 in
theorem all_calls (A : Option Addr) (m c : Nat) (sec key : ByteArray) (w : World) : Calls Tryd.prog 12 #[.agg #[.slice A m c], .string sec, .string key] w fun e w' =>
    e = .returned (.func (.func 29) #[] #[.pointer (some ⟨w.heap.size, 0, none⟩), .pointer (some ⟨w.heap.size + 1, 0, none⟩), .pointer (some ⟨w.heap.size + 2, 0, none⟩)]) ∧ w' = ((w.alloc (.cells #[.slice A m c] 25)).alloc (.cells #[.string sec] 9)).alloc (.cells #[.string key] 9) := by
  go_enter Tryd.func12, Tryd.ntmps12
  go_wp2
  go_ret
  exact ⟨rfl, rfl⟩
theorem hitsF_drop {sec key : ByteArray} {xs : List S37} {k : Nat} (h : k < xs.length) : hitsF sec key k (xs.drop k) = if hit sec key (xs[k]) then (k, (xs[k]).f2) :: hitsF sec key (k + 1) (xs.drop (k + 1)) else hitsF sec key (k + 1) (xs.drop (k + 1)) := by
  rw [List.drop_eq_getElem_cons h, hitsF]
theorem eq_hit (sec key : ByteArray) (s : S37) : (s.f0.toList == sec.toList && (s.f1.toList == key.toList)) = hit sec key s := by simp [hit, Bool.beq_eq_decide_eq]
theorem cells4s {W : World} {B B2 B3 : Nat} {a b c d u v : Value} {t : TypeId} (h : W.heap[B]? = some (.cells #[a, b, c, d] t (0, 0))) (h2 : W.cell? ⟨B2, 0, none⟩ = some u) (h3 : W.cell? ⟨B3, 0, none⟩ = some v) :
    W.cell? ⟨B, 0, none⟩ = some a ∧ W.cell? ⟨B, 1, none⟩ = some b ∧ W.cell? ⟨B, 2, none⟩ = some c ∧ W.cell? ⟨B, 3, none⟩ = some d ∧ W.cell? ⟨B2, 0, none⟩ = some u ∧ W.cell? ⟨B3, 0, none⟩ = some v := by
  obtain ⟨a0, a1, a2, a3⟩ := cells4_of h
  exact ⟨a0, a1, a2, a3, h2, h3⟩
theorem Turn.toGrown {W W' : World} (h : Turn (fun _ => False) W W') : W.grownBy W' none := ⟨h.os, h.tape, h.output, h.size, fun k hk _ => h.block k hk (fun hh => hh)⟩
/-- some blocks, every block of settings, and maps and walks over them lie as they lay -/
structure KeepT (p : Nat → Prop) (W W' : World) : Prop where
  on : ∀ k, p k → W'.heap[k]? = W.heap[k]?
  row : ∀ (k : Nat) (cells : Array Value) (fr : Nat × Nat), W.heap[k]? = some (Obj.cells cells 37 fr) → W'.heap[k]? = some (Obj.cells cells 37 fr)
  walk : ∀ (k : Nat) (o : Obj), W.heap[k]? = some o → o.isWalk = true → W'.heap[k]? = some o
  size : W.heap.size ≤ W'.heap.size
theorem KeepT.refl (p : Nat → Prop) (W : World) : KeepT p W W := ⟨fun _ _ => rfl, fun _ _ _ h => h, fun _ _ h _ => h, Nat.le_refl _⟩
theorem KeepT.box {p : Nat → Prop} {W W' : World} {B : Nat} {t : TypeId} {v : Value} (h : KeepT p W W') (hb : Boxed W B t v) (hp : p B) : Boxed W' B t v := (h.on B hp).trans hb
theorem KeepT.trans {p : Nat → Prop} {A B C : World} (h : KeepT p A B) (k : KeepT p B C) : KeepT p A C := ⟨fun i hi => (k.on i hi).trans (h.on i hi), fun i cs fr hi => k.row i cs fr (h.row i cs fr hi), fun i o hi ho => k.walk i o (h.walk i o hi ho) ho, Nat.le_trans h.size k.size⟩
theorem KeepT.put {p : Nat → Prop} {w : World} (hp : ∀ k, p k → k < w.heap.size) (W : World) (l : Nat) (o o' : Obj) (hl : w.heap.size ≤ l) (h : W.heap[l]? = some o) (hc : o.isCells = false) (hw : o.isWalk = false) : KeepT p W (W.putObj l o') := by
  refine ⟨fun k hk => ?_, fun k cs fr hk => ?_, fun k u hk hu => ?_, (grownBy_putObj' W l o').size⟩
  · rw [World.putObj_heap_other]
    rintro rfl
    have := hp _ hk
    omega
  · rw [World.putObj_heap_other]
    · exact hk
    · rintro rfl
      rw [hk] at h
      cases h
      cases hc
  · rw [World.putObj_heap_other]
    · exact hk
    · rintro rfl
      rw [hk] at h
      cases h
      rw [hu] at hw
      cases hw
theorem KeepT.of_turn {p q : Nat → Prop} {W W' : World} (h : Turn q W W') (hp : ∀ k, p k → k < W.heap.size ∧ ¬ q k) (hq : ∀ k, k < W.heap.size → q k → ∃ cells t fr, W.heap[k]? = some (Obj.cells cells t fr) ∧ t ≠ 37) : KeepT p W W' := by
  refine ⟨fun k hk => h.block k (hp k hk).1 (hp k hk).2, fun k cs fr hk => h.heap hk ?_, fun k o hk ho => h.heap hk ?_, h.size⟩
  · intro hh
    obtain ⟨cells, t, fr', he, hne⟩ := hq k (Array.getElem?_eq_some_iff.1 hk).1 hh
    rw [hk] at he
    cases he
    exact hne rfl
  · intro hh
    obtain ⟨cells, t, fr', he, hne⟩ := hq k (Array.getElem?_eq_some_iff.1 hk).1 hh
    rw [hk] at he
    cases he
    cases ho
theorem KeepT.map {H : Type} {P : Program} {k : TypeId} {R : Value → Option (DataW H × List MemPlace)} {b n : Nat} {D : DataW H} {p : Nat → Prop} {W W' : World} (h : KeepT p W W') (hm : W.ownsMap P k R b n D) : W'.ownsMap P k R b n D := by
  obtain ⟨es, clock, hb, r⟩ := hm
  exact ⟨es, clock, h.walk b _ hb rfl, r⟩
theorem C37_turn {W W' : World} {A : Option Addr} {n : Nat} {xs : List S37} (h : Kd.C k37 W A n xs) (ht : Turn (fun _ => False) W W') : Kd.C k37 W' A n xs := Kd.C_below h ((Turn.toBelow ht (fun _ _ h => h) (Nat.le_refl _)))
set_option maxRecDepth 100000 in
set_option maxHeartbeats 8000000 in
theorem all_in_y (l B1 B2 B3 c n : Nat) (hn : 3 ≤ n) (p : Nat → Prop) (A : Option Addr) (xs : List S37) (sec key : ByteArray)
    (J : List (Nat × ByteArray) → World → Prop) (W : World) (hJ : AbidesFrom W.heap.size J) (hp1 : p B1) (hp2 : p B2) (hp3 : p B3) (hpA : ∀ ad, A = some ad → p ad.block)
    (hY : ∀ pre x W1, J pre W1 → (∃ rest, pre ++ x :: rest = hitsF sec key 0 xs) → YieldAt Fence.wide (n - 1) Tryd.prog l #[.int .i64 (x.1 : Int), .string x.2] W1 fun e W' => e = .returned (.bool true) ∧ J (pre ++ [x]) W' ∧ KeepT p W1 W')
    (hB1 : Boxed W B1 25 (.slice A xs.length c)) (hB2 : Boxed W B2 9 (.string sec)) (hB3 : Boxed W B3 9 (.string key)) (hC : Kd.C k37 W A xs.length xs) (h0 : J [] W) :
    CallsIn Fence.wide n Tryd.prog 29 #[.func (.yield l) #[] #[], .pointer (some ⟨B1, 0, none⟩), .pointer (some ⟨B2, 0, none⟩), .pointer (some ⟨B3, 0, none⟩)] W fun e W' => (∃ v, e = .returned v) ∧ (∃ ys, ys = hitsF sec key 0 xs ∧ J ys W') := by
  have hmax : xs.length ≤ 9223372036854775807 := hC.2.1
  have hBc := hB1.cell
  refine callsIn_of_wp Tryd.func29 rfl trivial ?_ rfl
  simp only [Tryd.ntmps29, List.size_toArray, List.length_cons, List.length_nil, Nat.reduceAdd, Nat.reduceSub, Array.replicate_succ, Array.replicate_zero, List.push_toArray, List.append_toArray, List.nil_append, List.cons_append]
  gi_wp2
  gi_loopw [10] (fun i wr => ∃ (k : Nat) (pre : List (Nat × ByteArray)), i = .int .i64 (k : Int) ∧ k ≤ xs.length ∧ pre ++ hitsF sec key k (xs.drop k) = hitsF sec key 0 xs ∧ J pre wr ∧ W.heap.size ≤ wr.heap.size ∧ Boxed wr B1 25 (.slice A xs.length c) ∧ Boxed wr B2 9 (.string sec) ∧ Boxed wr B3 9 (.string key) ∧ Kd.C k37 wr A xs.length xs)
    (fun i _ => xs.length - (intOf i).toNat)
  case atStart => exact ⟨0, [], rfl, Nat.zero_le _, rfl, h0, Nat.le_refl _, hB1, hB2, hB3, hC⟩
  case round =>
    obtain ⟨k, pre, rfl, hk, hpre, hJs, hsz, h1, h2, h3, hCs⟩ := hrel
    by_cases hlt : k < xs.length
    · have hw1 : wrap64 ((k : Int) + 1) = ((k + 1 : Nat) : Int) := by unfold wrap64; omega
      obtain ⟨ad, eA, q0, q1, q2, q3⟩ := at_T37 hCs (k : Int) (by omega) (by omega)
      subst eA
      simp only [Int.toNat_natCast] at q0 q1 q2 q3
      have hrd : rd_T37 xs (k : Int) = xs[k] := rdm37 hlt
      rw [hrd] at q0 q1 q2 q3
      have d1 : decide ((k : Int) < (xs.length : Int)) = true := decide_eq_true (by omega)
      have d2 : (0 ≤ (k : Int)) = True := eq_true (by omega)
      have d3 : ((k : Int) < (xs.length : Int)) = True := eq_true (by omega)
      have d4 : (k < xs.length) = True := eq_true hlt
      obtain ⟨w2, hw2⟩ : ∃ w2, wr.alloc (.cells #[.string (xs[k]).f0, .string (xs[k]).f1, .string (xs[k]).f2, .int .i64 (xs[k]).f3] 37) = w2 := ⟨_, rfl⟩
      have ht2 : Turn (fun _ => False) wr w2 := by rw [← hw2]; exact Turn.alloc _ _
      have hJ2 : J pre w2 := by rw [← hw2]; exact hJ pre wr _ none hJs (World.grownBy_alloc wr _ none) (fun r e => by cases e)
      have hx2 : w2.heap[wr.heap.size]? = some (.cells #[.string (xs[k]).f0, .string (xs[k]).f1, .string (xs[k]).f2, .int .i64 (xs[k]).f3] 37 (0, 0)) := by rw [← hw2]; exact World.alloc_heap_new wr _
      have g1 := ht2.boxed h1 (fun h => h)
      have g2 := ht2.boxed h2 (fun h => h)
      have g3 := ht2.boxed h3 (fun h => h)
      have HS2 := cells4s hx2 g2.cell g3.cell
      gi_wp2
      have hmix : Tryd.prog.follows .mixedOrders = true := by kernel_rfl
      by_cases hh : hit sec key (xs[k]) = true
      · have hq : ((xs[k]).f0.toList == sec.toList && ((xs[k]).f1.toList == key.toList)) = true := by rw [← hh]; exact eq_hit _ _ _
        have hrest : ∃ rest, pre ++ (k, (xs[k]).f2) :: rest = hitsF sec key 0 xs := ⟨_, by rw [← hpre, hitsF_drop hlt, if_pos hh]⟩
        refine wpIn_region_held (fun w' => w'.cell? ⟨wr.heap.size, 0, none⟩ = some (.string (xs[k]).f0) ∧ w'.cell? ⟨wr.heap.size, 1, none⟩ = some (.string (xs[k]).f1) ∧ w'.cell? ⟨wr.heap.size, 2, none⟩ = some (.string (xs[k]).f2) ∧ w'.cell? ⟨wr.heap.size, 3, none⟩ = some (.int .i64 (xs[k]).f3) ∧ w'.cell? ⟨B2, 0, none⟩ = some (.string sec) ∧ w'.cell? ⟨B3, 0, none⟩ = some (.string key)) hmix ?_
        refine wpAnyInH_take (i := 0) (v := ?v1) rfl (by kernel_rfl) (by kernel_rfl) (by kernel_rfl) (by kernel_rfl) (fun _ _ _ h => h) ⟨Or.inl ⟨rfl, ?hy1⟩, fun _ => rfl⟩ HS2 ?r1
        case hy1 => (intro w' hS'; obtain ⟨z0, z1, z2, z3, z4, z5⟩ := hS'; go_simp <;> with_reducible rfl)
        refine wpAnyInH_take (i := 2) (v := ?v2) rfl (by kernel_rfl) (by kernel_rfl) (by kernel_rfl) (by kernel_rfl) (fun _ _ _ h => h) ⟨Or.inl ⟨rfl, ?hy2⟩, fun _ => rfl⟩ HS2 ?r2
        case hy2 => (intro w' hS'; obtain ⟨z0, z1, z2, z3, z4, z5⟩ := hS'; go_simp <;> with_reducible rfl)
        refine wpAnyInH_take (i := 3) (v := ?v3) rfl (by kernel_rfl) (by kernel_rfl) (by kernel_rfl) (by kernel_rfl) (fun _ _ _ h => h) ⟨Or.inl ⟨rfl, ?hy3⟩, fun _ => rfl⟩ HS2 ?r3
        case hy3 => (intro w' hS'; obtain ⟨z0, z1, z2, z3, z4, z5⟩ := hS'; go_simp <;> with_reducible rfl)
        refine wpAnyInH_take (i := 4) (v := ?v4) rfl (by kernel_rfl) (by kernel_rfl) (by kernel_rfl) (by kernel_rfl) (fun _ _ _ h => h) ⟨Or.inl ⟨rfl, ?hy4⟩, fun _ => rfl⟩ HS2 ?r4
        case hy4 => (intro w' hS'; obtain ⟨z0, z1, z2, z3, z4, z5⟩ := hS'; go_simp <;> with_reducible rfl)
        refine wpAnyInH_one (i := 1) (by kernel_rfl) rfl ?_
        intro K hK
        go_simp
        refine ⟨trivial, (fun h => by cases h), ?_⟩
        refine (callsIn_wide.2 (unitfile_of.calls (xs[k]).f0 (xs[k]).f1 (xs[k]).f2 (xs[k]).f3 _ _ _ rfl)).mono ?_
        rintro e w6 ⟨rfl, hb6⟩
        have t6 : Turn (fun _ => False) w2 w6 := (Turn.drew w2).trans (Turn.below hb6 (Nat.le_refl _))
        have HS6 := cells4s (t6.heap hx2 (fun h => h)) (t6.boxed g2 (fun h => h)).cell (t6.boxed g3 (fun h => h)).cell
        refine hK _ _ HS6 ?_
        clear hK K
        refine wpAnyInH_act (a' := ?a5) ?e5 ?r5
        case e5 => (go_simp <;> with_reducible rfl)
        refine wpAnyInH_take (i := 5) (v := ?v6) rfl (by kernel_rfl) (by kernel_rfl) (by kernel_rfl) (by kernel_rfl) (fun _ _ _ h => h) ⟨Or.inl ⟨rfl, ?hy6⟩, fun _ => rfl⟩ HS6 ?r6
        case hy6 => (intro w' hS'; obtain ⟨z0, z1, z2, z3, z4, z5⟩ := hS'; go_simp <;> with_reducible rfl)
        refine wpAnyInH_take (i := 6) (v := ?v7) rfl (by kernel_rfl) (by kernel_rfl) (by kernel_rfl) (by kernel_rfl) (fun _ _ _ h => h) ⟨Or.inl ⟨rfl, ?hy7⟩, fun _ => rfl⟩ HS6 ?r7
        case hy7 => (intro w' hS'; obtain ⟨z0, z1, z2, z3, z4, z5⟩ := hS'; go_simp <;> with_reducible rfl)
        refine wpAnyInH_act (a' := ?a8) ?e8 ?r8
        case e8 => (go_simp <;> with_reducible rfl)
        refine wpAnyInH_take (i := 7) (v := ?v9) rfl (by kernel_rfl) (by kernel_rfl) (by kernel_rfl) (by kernel_rfl) (fun _ _ _ h => h) ⟨Or.inl ⟨rfl, ?hy9⟩, fun _ => rfl⟩ HS6 ?r9
        case hy9 => (intro w' hS'; obtain ⟨z0, z1, z2, z3, z4, z5⟩ := hS'; go_simp <;> with_reducible rfl)
        refine wpAnyInH_take (i := 8) (v := ?v10) rfl (by kernel_rfl) (by kernel_rfl) (by kernel_rfl) (by kernel_rfl) (fun _ _ _ h => h) ⟨Or.inl ⟨rfl, ?hy10⟩, fun _ => rfl⟩ HS6 ?r10
        case hy10 => (intro w' hS'; obtain ⟨z0, z1, z2, z3, z4, z5⟩ := hS'; go_simp <;> with_reducible rfl)
        refine wpAnyInH_act (a' := ?a11) ?e11 ?r11
        case e11 => (go_simp <;> with_reducible rfl)
        refine wpAnyInH_take (i := 9) (v := ?v12) rfl (by kernel_rfl) (by kernel_rfl) (by kernel_rfl) (by kernel_rfl) (fun _ _ _ h => h) ⟨Or.inl ⟨rfl, ?hy12⟩, fun _ => rfl⟩ HS6 ?r12
        case hy12 => (intro w' hS'; obtain ⟨z0, z1, z2, z3, z4, z5⟩ := hS'; go_simp <;> with_reducible rfl)
        refine wpAnyInH_take (i := 10) (v := ?v13) rfl (by kernel_rfl) (by kernel_rfl) (by kernel_rfl) (by kernel_rfl) (fun _ _ _ h => h) ⟨Or.inl ⟨rfl, ?hy13⟩, fun _ => rfl⟩ HS6 ?r13
        case hy13 => (intro w' hS'; obtain ⟨z0, z1, z2, z3, z4, z5⟩ := hS'; go_simp <;> with_reducible rfl)
        refine wpAnyInH_act (a' := ?a14) ?e14 ?r14
        case e14 => (go_simp <;> with_reducible rfl)
        have hJ6 : J pre w6 := hJ pre w2 w6 none hJ2 t6.toGrown (fun r e => by cases e)
        obtain ⟨fn, tmps, assign, body, hy, hR⟩ := hY pre (k, (xs[k]).f2) w6 hJ6 hrest
        dsimp only at hy
        refine wpAnyInH_one (i := 11) (by kernel_rfl) rfl ?_
        intro K hK
        go_simp
        refine ⟨(fun h => by cases h), ?_⟩
        refine hR.mono ?_
        rintro e W3 ⟨rfl, hJ3, hk3⟩
        have HS7 := cells4s (hk3.row _ _ _ (t6.heap hx2 (fun h => h))) (hk3.box (t6.boxed g2 (fun h => h)) hp2).cell (hk3.box (t6.boxed g3 (fun h => h)) hp3).cell
        refine hK _ _ HS7 ?_
        clear hK K
        refine wpAnyInH_take (i := 12) (v := ?v15) rfl (by kernel_rfl) (by kernel_rfl) (by kernel_rfl) (by kernel_rfl) (fun _ _ _ h => h) ⟨Or.inl ⟨rfl, ?hy15⟩, fun _ => rfl⟩ HS7 ?r15
        case hy15 => (intro w' hS'; obtain ⟨z0, z1, z2, z3, z4, z5⟩ := hS'; go_simp <;> with_reducible rfl)
        refine wpAnyInH_take (i := 13) (v := ?v16) rfl (by kernel_rfl) (by kernel_rfl) (by kernel_rfl) (by kernel_rfl) (fun _ _ _ h => h) ⟨Or.inl ⟨rfl, ?hy16⟩, fun _ => rfl⟩ HS7 ?r16
        case hy16 => (intro w' hS'; obtain ⟨z0, z1, z2, z3, z4, z5⟩ := hS'; go_simp <;> with_reducible rfl)
        refine wpAnyInH_act (a' := ?a17) ?e17 ?r17
        case e17 => (go_simp <;> with_reducible rfl)
        refine wpAnyInH_done (by kernel_rfl) ?_ _
        gi_wp2
        go_roundw
        case rel => exact ⟨k + 1, pre ++ [(k, (xs[k]).f2)], rfl, hlt, by rw [← hpre, hitsF_drop hlt, if_pos hh]; simp, hJ3, Nat.le_trans hsz (Nat.le_trans ht2.size (Nat.le_trans t6.size hk3.size)), hk3.box (t6.boxed g1 (fun h => h)) hp1, hk3.box (t6.boxed g2 (fun h => h)) hp2, hk3.box (t6.boxed g3 (fun h => h)) hp3, C37_on (C37_turn (C37_turn hCs ht2) t6) (fun ad' e => hk3.on _ (hpA ad' e))⟩
        case measure => exact up_meas hlt
      · rw [Bool.not_eq_true] at hh
        have hq : ((xs[k]).f0.toList == sec.toList && ((xs[k]).f1.toList == key.toList)) = false := by rw [← hh]; exact eq_hit _ _ _
        refine wpIn_region_held (fun w' => w'.cell? ⟨wr.heap.size, 0, none⟩ = some (.string (xs[k]).f0) ∧ w'.cell? ⟨wr.heap.size, 1, none⟩ = some (.string (xs[k]).f1) ∧ w'.cell? ⟨wr.heap.size, 2, none⟩ = some (.string (xs[k]).f2) ∧ w'.cell? ⟨wr.heap.size, 3, none⟩ = some (.int .i64 (xs[k]).f3) ∧ w'.cell? ⟨B2, 0, none⟩ = some (.string sec) ∧ w'.cell? ⟨B3, 0, none⟩ = some (.string key)) hmix ?_
        refine wpAnyInH_take (i := 0) (v := ?v18) rfl (by kernel_rfl) (by kernel_rfl) (by kernel_rfl) (by kernel_rfl) (fun _ _ _ h => h) ⟨Or.inl ⟨rfl, ?hy18⟩, fun _ => rfl⟩ HS2 ?r18
        case hy18 => (intro w' hS'; obtain ⟨z0, z1, z2, z3, z4, z5⟩ := hS'; go_simp <;> with_reducible rfl)
        refine wpAnyInH_take (i := 2) (v := ?v19) rfl (by kernel_rfl) (by kernel_rfl) (by kernel_rfl) (by kernel_rfl) (fun _ _ _ h => h) ⟨Or.inl ⟨rfl, ?hy19⟩, fun _ => rfl⟩ HS2 ?r19
        case hy19 => (intro w' hS'; obtain ⟨z0, z1, z2, z3, z4, z5⟩ := hS'; go_simp <;> with_reducible rfl)
        refine wpAnyInH_take (i := 3) (v := ?v20) rfl (by kernel_rfl) (by kernel_rfl) (by kernel_rfl) (by kernel_rfl) (fun _ _ _ h => h) ⟨Or.inl ⟨rfl, ?hy20⟩, fun _ => rfl⟩ HS2 ?r20
        case hy20 => (intro w' hS'; obtain ⟨z0, z1, z2, z3, z4, z5⟩ := hS'; go_simp <;> with_reducible rfl)
        refine wpAnyInH_take (i := 4) (v := ?v21) rfl (by kernel_rfl) (by kernel_rfl) (by kernel_rfl) (by kernel_rfl) (fun _ _ _ h => h) ⟨Or.inl ⟨rfl, ?hy21⟩, fun _ => rfl⟩ HS2 ?r21
        case hy21 => (intro w' hS'; obtain ⟨z0, z1, z2, z3, z4, z5⟩ := hS'; go_simp <;> with_reducible rfl)
        refine wpAnyInH_one (i := 1) (by kernel_rfl) rfl ?_
        intro K hK
        go_simp
        refine ⟨trivial, (fun h => by cases h), ?_⟩
        refine (callsIn_wide.2 (unitfile_of.calls (xs[k]).f0 (xs[k]).f1 (xs[k]).f2 (xs[k]).f3 _ _ _ rfl)).mono ?_
        rintro e w6 ⟨rfl, hb6⟩
        have t6 : Turn (fun _ => False) w2 w6 := (Turn.drew w2).trans (Turn.below hb6 (Nat.le_refl _))
        have HS6 := cells4s (t6.heap hx2 (fun h => h)) (t6.boxed g2 (fun h => h)).cell (t6.boxed g3 (fun h => h)).cell
        refine hK _ _ HS6 ?_
        clear hK K
        refine wpAnyInH_act (a' := ?a22) ?e22 ?r22
        case e22 => (go_simp <;> with_reducible rfl)
        refine wpAnyInH_take (i := 5) (v := ?v23) rfl (by kernel_rfl) (by kernel_rfl) (by kernel_rfl) (by kernel_rfl) (fun _ _ _ h => h) ⟨Or.inl ⟨rfl, ?hy23⟩, fun _ => rfl⟩ HS6 ?r23
        case hy23 => (intro w' hS'; obtain ⟨z0, z1, z2, z3, z4, z5⟩ := hS'; go_simp <;> with_reducible rfl)
        refine wpAnyInH_take (i := 6) (v := ?v24) rfl (by kernel_rfl) (by kernel_rfl) (by kernel_rfl) (by kernel_rfl) (fun _ _ _ h => h) ⟨Or.inl ⟨rfl, ?hy24⟩, fun _ => rfl⟩ HS6 ?r24
        case hy24 => (intro w' hS'; obtain ⟨z0, z1, z2, z3, z4, z5⟩ := hS'; go_simp <;> with_reducible rfl)
        refine wpAnyInH_act (a' := ?a25) ?e25 ?r25
        case e25 => (go_simp <;> with_reducible rfl)
        refine wpAnyInH_take (i := 7) (v := undef) rfl (by kernel_rfl) (by kernel_rfl) (by kernel_rfl) (by kernel_rfl) (fun _ _ _ h => h) ⟨Or.inr ⟨rfl, rfl⟩, fun _ => rfl⟩ HS6 ?_
        refine wpAnyInH_take (i := 8) (v := undef) rfl (by kernel_rfl) (by kernel_rfl) (by kernel_rfl) (by kernel_rfl) (fun _ _ _ h => h) ⟨Or.inr ⟨rfl, rfl⟩, fun _ => rfl⟩ HS6 ?_
        refine wpAnyInH_take (i := 9) (v := undef) rfl (by kernel_rfl) (by kernel_rfl) (by kernel_rfl) (by kernel_rfl) (fun _ _ _ h => h) ⟨Or.inr ⟨rfl, rfl⟩, fun _ => rfl⟩ HS6 ?_
        refine wpAnyInH_act (a' := ?a29) ?e29 ?r29
        case e29 => (go_simp <;> with_reducible rfl)
        refine wpAnyInH_take (i := 10) (v := undef) rfl (by kernel_rfl) (by kernel_rfl) (by kernel_rfl) (by kernel_rfl) (fun _ _ _ h => h) ⟨Or.inr ⟨rfl, rfl⟩, fun _ => rfl⟩ HS6 ?_
        refine wpAnyInH_take (i := 11) (v := undef) rfl (by kernel_rfl) (by kernel_rfl) (by kernel_rfl) (by kernel_rfl) (fun _ _ _ h => h) ⟨Or.inr ⟨rfl, rfl⟩, fun _ => rfl⟩ HS6 ?_
        refine wpAnyInH_act (a' := ?a32) ?e32 ?r32
        case e32 => (go_simp <;> with_reducible rfl)
        refine wpAnyInH_take (i := 12) (v := undef) rfl (by kernel_rfl) (by kernel_rfl) (by kernel_rfl) (by kernel_rfl) (fun _ _ _ h => h) ⟨Or.inr ⟨rfl, rfl⟩, fun _ => rfl⟩ HS6 ?_
        refine wpAnyInH_act (a' := ?a34) ?e34 ?r34
        case e34 => (go_simp <;> with_reducible rfl)
        refine wpAnyInH_take (i := 13) (v := ?v35) rfl (by kernel_rfl) (by kernel_rfl) (by kernel_rfl) (by kernel_rfl) (fun _ _ _ h => h) ⟨Or.inl ⟨rfl, ?hy35⟩, fun _ => rfl⟩ HS6 ?r35
        case hy35 => (intro w' hS'; obtain ⟨z0, z1, z2, z3, z4, z5⟩ := hS'; go_simp <;> with_reducible rfl)
        refine wpAnyInH_act (a' := ?a36) ?e36 ?r36
        case e36 => (go_simp <;> with_reducible rfl)
        refine wpAnyInH_done (by kernel_rfl) ?_ _
        gi_wp2
        go_roundw
        case rel => exact ⟨k + 1, pre, rfl, hlt, by rw [← hpre, hitsF_drop hlt, if_neg (by rw [hh]; decide)], hJ pre w2 w6 none hJ2 t6.toGrown (fun r e => by cases e), Nat.le_trans hsz (Nat.le_trans ht2.size t6.size), t6.boxed g1 (fun h => h), t6.boxed g2 (fun h => h), t6.boxed g3 (fun h => h), C37_turn (C37_turn hCs ht2) t6⟩
        case measure => exact up_meas hlt
    · obtain rfl : k = xs.length := by omega
      have c1 : decide ((xs.length : Int) < (xs.length : Int)) = false := decide_eq_false (by omega)
      rw [List.drop_length, hitsF, List.append_nil] at hpre
      gi_wp2
      go_end0
      exact ⟨⟨_, rfl⟩, ⟨_, rfl, by rw [← hpre]; exact hJs⟩⟩
end Go.Proofs.YtbigbjfppaenfaaDoor.Lines
