/- FileMerges' second function, walked; All and Sections with the law's own functions. -/
import Derived.Test.YtbigbjfppaenfaaDoorWi
namespace Go.Proofs.YtbigbjfppaenfaaDoor.Lines
open Go.RowKit Go.Shelf Go.Proofs.YtbigbjfppaenfaaDoorW.PrintWords Go.Proofs.YtbigbjfppaenfaaDoorW.PrintLast
attribute [local go_sem] Oper.semAt_some
attribute [local go_sem high] eqA37
attribute [local go_sem high] eqA69
set_option linter.unusedVariables false
set_option linter.unusedSimpArgs false
/-- one thing laid behind an own row, at the operation -/
theorem wpListIn_append_one {F : Fence} {nF : Nat} {P : Program} (W : World) {ops : Array Oper} {rest : List Oper} {o : Oper} {a : Act} {Q : Exit → Act → World → Prop} (hgd : o.guard = none) (s x : Operand) (t e : TypeId)
    (ho : o.op = .call { callee := .builtin .append, args := #[s, x], argTypes := #[t, t] }) {M : Nat} (z : Value) (bytes : Nat) (ht : P.underlying t = some (.slice e)) (hi : (P.info? e).map (fun i => (i.zero, i.size, i.bytes)) = some (some z, 1, bytes)) (hzs : z.cells.size = 1)
    {v : Value} {n : Nat} {xs : List Value} (hs : a.eval s = v) {g : Nat} (hx : a.eval x = .slice (some ⟨g, 0, none⟩) 1 1) (hown : W.ownsRow M e 1 v n xs) {u : Value} (hu : W.cell? ⟨g, 0, none⟩ = some u) (h1 : u.oneCell' = true) (hn : n ≤ 1000) (hb : bytes ≤ 1000) (hM : M ≤ W.heap.size)
    (h : ∀ A' c' W', W'.ownsRow M e 1 (.slice A' (n + 1) c') (n + 1) (xs ++ [u]) → W.grownBy W' v.ownBlock → wpListIn F nF P ops Q rest (a.put o.dst (.slice A' (n + 1) c')) W') :
    wpListIn F nF P ops Q (o :: rest) a W := by
  refine wpListIn_plain hgd fun K hK => ?_
  obtain ⟨A', c', W', hr, h2, h3, _⟩ := run_append_one t o.type e z bytes ht hi hzs hown hu h1 hn hb hM
  exact wpIn_append_step ho hs hx hr (hK _ _ (h A' c' W' h2 h3))
set_option maxRecDepth 100000 in
set_option maxHeartbeats 8000000 in
theorem sec_in (n : Nat) (Bn M : Nat) (ns : List ByteArray) (An : Option Addr) (cn : Nat) (W : World) (x : ByteArray) (hB : Boxed W Bn 39 (.slice An ns.length cn)) (hr : W.ownsRow M 9 1 (.slice An ns.length cn) ns.length (strsV ns)) (hM : M ≤ W.heap.size) (hl : ns.length ≤ 1000) :
    CallsIn Fence.wide n Tryd.prog 22 #[.string x, .pointer (some ⟨Bn, 0, none⟩)] W fun e W' => ∃ A' c', e = .returned (.bool (decide ((ns.length : Int) + 1 ≤ 300))) ∧ Boxed W' Bn 39 (.slice A' (ns ++ [x]).length c') ∧ W'.ownsRow M 9 1 (.slice A' (ns ++ [x]).length c') (ns ++ [x]).length (strsV (ns ++ [x])) ∧ Turn (fun k => k = Bn ∨ (Value.slice An ns.length cn).ownBlock = some k) W W' := by
  have hX := hB.alloc (.cells #[.string x] 9)
  have hXc := hX.cell
  have hXr := World.ownsRow.alloc hr (.cells #[.string x] 9)
  have hn := (Boxed.new W 9 (.string x)).cell
  have hBc := hB.cell
  refine callsIn_of_wp Tryd.func22 rfl trivial ?_ rfl
  simp only [Tryd.ntmps22, List.size_toArray, List.length_cons, List.length_nil, Nat.reduceAdd, Nat.reduceSub, Array.replicate_succ, Array.replicate_zero, List.push_toArray, List.append_toArray, List.nil_append, List.cons_append]
  gi_wp2_with (gi_at_builtin; refine wpListIn_append_one _ rfl _ _ 39 9 rfl _ 16 Tryd.underlying39 infoStr rfl rfl rfl hXr hn rfl hl (by decide) (Nat.le_trans hM (World.grownBy_alloc _ _ none).size) ?_; intro A' c' w2 hown' hg; have hB2 := hX.kept hg (fun e => row_box hXr hX (by decide) e.symm); have hB2c := hB2.cell; have hB2f := hB2.frozen)
  refine bodyPost_ret (results_tmp rfl _ _ _) rfl ?_
  have e1 : (ns ++ [x]).length = ns.length + 1 := by simp
  have e2 : strsV (ns ++ [x]) = strsV ns ++ [.string x] := by simp [strsV]
  refine ⟨A', c', rfl, ?_, ?_, ?_⟩
  · rw [e1]; exact hB2.set _
  · rw [e1, e2]; exact hown'.kept (grownBy_setCell' w2 Bn _) (.inr (row_box hown' hB2 (by decide)))
  · exact ((Turn.alloc _ _).trans (Turn.grown hg (fun k e => .inr e))).trans (Turn.set _ Bn _ (.inl rfl))
set_option maxRecDepth 100000 in
set_option maxHeartbeats 8000000 in
theorem all_in_c20 (Ba Bb Bs B1 B2 B3 c n : Nat) (hn : 3 ≤ n) (p : Nat → Prop) (A : Option Addr) (xs : List S37) (sec key : ByteArray)
    (J Jx : List (Nat × ByteArray) → World → Prop) (W : World) (hJ : ∀ s W1 W2, J s W1 → Turn (fun _ => False) W1 W2 → J s W2) (hp1 : p B1) (hp2 : p B2) (hp3 : p B3) (hpA : ∀ ad, A = some ad → p ad.block)
    (hY : ∀ pre x W1, J pre W1 → (∃ rest, pre ++ x :: rest = hitsF sec key 0 xs) → CallsIn Fence.wide (n - 1) Tryd.prog 20 #[.int .i64 (x.1 : Int), .string x.2, .pointer (some ⟨Ba, 0, none⟩), .pointer (some ⟨Bb, 0, none⟩), .pointer (some ⟨Bs, 0, none⟩)] W1 fun e W' => ∃ b, e = .returned (.bool b) ∧ KeepT p W1 W' ∧ (b = true → J (pre ++ [x]) W') ∧ (b = false → Jx (pre ++ [x]) W'))
    (hB1 : Boxed W B1 25 (.slice A xs.length c)) (hB2 : Boxed W B2 9 (.string sec)) (hB3 : Boxed W B3 9 (.string key)) (hC : Kd.C k37 W A xs.length xs) (h0 : J [] W) :
    CallsIn Fence.wide n Tryd.prog 29 #[.func (.func 20) #[] #[.pointer (some ⟨Ba, 0, none⟩), .pointer (some ⟨Bb, 0, none⟩), .pointer (some ⟨Bs, 0, none⟩)], .pointer (some ⟨B1, 0, none⟩), .pointer (some ⟨B2, 0, none⟩), .pointer (some ⟨B3, 0, none⟩)] W fun e W' => (∃ v, e = .returned v) ∧ ((∃ ys, ys = hitsF sec key 0 xs ∧ J ys W') ∨ (∃ pre, pre <+: hitsF sec key 0 xs ∧ Jx pre W')) := by
  have hmax : xs.length ≤ 9223372036854775807 := hC.2.1
  have hBc := hB1.cell
  refine callsIn_of_wp Tryd.func29 rfl trivial ?_ rfl
  simp only [Tryd.ntmps29, List.size_toArray, List.length_cons, List.length_nil, Nat.reduceAdd, Nat.reduceSub, Array.replicate_succ, Array.replicate_zero, List.push_toArray, List.append_toArray, List.nil_append, List.cons_append]
  gi_wp2
  gi_loopw [10] (fun i wr => ∃ (k : Nat) (pre : List (Nat × ByteArray)), i = .int .i64 (k : Int) ∧ k ≤ xs.length ∧ pre ++ hitsF sec key k (xs.drop k) = hitsF sec key 0 xs ∧ J pre wr ∧ W.heap.size ≤ wr.heap.size ∧ Boxed wr B1 25 (.slice A xs.length c) ∧ Boxed wr B2 9 (.string sec) ∧ Boxed wr B3 9 (.string key) ∧ Kd.C k37 wr A xs.length xs)
    (fun i _ => xs.length - (intOf i).toNat)
  case atStart => exact ⟨0, [], rfl, Nat.zero_le _, rfl, h0, Nat.le_refl _, hB1, hB2, hB3, hC⟩
  case round =>
    obtain ⟨k, pre, rfl, hk, hpre, hJs, hsz, h1, h2, h3, hCs⟩ := hrel
    by_cases hlt : k < xs.length
    · have hw1 : wrap64 ((k : Int) + 1) = ((k + 1 : Nat) : Int) := by unfold wrap64; omega
      obtain ⟨ad, eA, q0, q1, q2, q3⟩ := at_T37 hCs (k : Int) (by omega) (by omega)
      subst eA
      simp only [Int.toNat_natCast] at q0 q1 q2 q3
      have hrd : rd_T37 xs (k : Int) = xs[k] := rdm37 hlt
      rw [hrd] at q0 q1 q2 q3
      have d1 : decide ((k : Int) < (xs.length : Int)) = true := decide_eq_true (by omega)
      have d2 : (0 ≤ (k : Int)) = True := eq_true (by omega)
      have d3 : ((k : Int) < (xs.length : Int)) = True := eq_true (by omega)
      have d4 : (k < xs.length) = True := eq_true hlt
      obtain ⟨w2, hw2⟩ : ∃ w2, wr.alloc (.cells #[.string (xs[k]).f0, .string (xs[k]).f1, .string (xs[k]).f2, .int .i64 (xs[k]).f3] 37) = w2 := ⟨_, rfl⟩
      have ht2 : Turn (fun _ => False) wr w2 := by rw [← hw2]; exact Turn.alloc _ _
      have hJ2 : J pre w2 := by rw [← hw2]; exact hJ pre wr _ hJs (Turn.alloc _ _)
      have hx2 : w2.heap[wr.heap.size]? = some (.cells #[.string (xs[k]).f0, .string (xs[k]).f1, .string (xs[k]).f2, .int .i64 (xs[k]).f3] 37 (0, 0)) := by rw [← hw2]; exact World.alloc_heap_new wr _
      have g1 := ht2.boxed h1 (fun h => h)
      have g2 := ht2.boxed h2 (fun h => h)
      have g3 := ht2.boxed h3 (fun h => h)
      have HS2 := cells4s hx2 g2.cell g3.cell
      gi_wp2
      have hmix : Tryd.prog.follows .mixedOrders = true := by kernel_rfl
      by_cases hh : hit sec key (xs[k]) = true
      · have hq : ((xs[k]).f0.toList == sec.toList && ((xs[k]).f1.toList == key.toList)) = true := by rw [← hh]; exact eq_hit _ _ _
        have hrest : ∃ rest, pre ++ (k, (xs[k]).f2) :: rest = hitsF sec key 0 xs := ⟨_, by rw [← hpre, hitsF_drop hlt, if_pos hh]⟩
        refine wpIn_region_held (fun w' => w'.cell? ⟨wr.heap.size, 0, none⟩ = some (.string (xs[k]).f0) ∧ w'.cell? ⟨wr.heap.size, 1, none⟩ = some (.string (xs[k]).f1) ∧ w'.cell? ⟨wr.heap.size, 2, none⟩ = some (.string (xs[k]).f2) ∧ w'.cell? ⟨wr.heap.size, 3, none⟩ = some (.int .i64 (xs[k]).f3) ∧ w'.cell? ⟨B2, 0, none⟩ = some (.string sec) ∧ w'.cell? ⟨B3, 0, none⟩ = some (.string key)) hmix ?_
        refine wpAnyInH_take (i := 0) (v := ?v1) rfl (by kernel_rfl) (by kernel_rfl) (by kernel_rfl) (by kernel_rfl) (fun _ _ _ h => h) ⟨Or.inl ⟨rfl, ?hy1⟩, fun _ => rfl⟩ HS2 ?r1
        case hy1 => (intro w' hS'; obtain ⟨z0, z1, z2, z3, z4, z5⟩ := hS'; go_simp <;> with_reducible rfl)
        refine wpAnyInH_take (i := 2) (v := ?v2) rfl (by kernel_rfl) (by kernel_rfl) (by kernel_rfl) (by kernel_rfl) (fun _ _ _ h => h) ⟨Or.inl ⟨rfl, ?hy2⟩, fun _ => rfl⟩ HS2 ?r2
        case hy2 => (intro w' hS'; obtain ⟨z0, z1, z2, z3, z4, z5⟩ := hS'; go_simp <;> with_reducible rfl)
        refine wpAnyInH_take (i := 3) (v := ?v3) rfl (by kernel_rfl) (by kernel_rfl) (by kernel_rfl) (by kernel_rfl) (fun _ _ _ h => h) ⟨Or.inl ⟨rfl, ?hy3⟩, fun _ => rfl⟩ HS2 ?r3
        case hy3 => (intro w' hS'; obtain ⟨z0, z1, z2, z3, z4, z5⟩ := hS'; go_simp <;> with_reducible rfl)
        refine wpAnyInH_take (i := 4) (v := ?v4) rfl (by kernel_rfl) (by kernel_rfl) (by kernel_rfl) (by kernel_rfl) (fun _ _ _ h => h) ⟨Or.inl ⟨rfl, ?hy4⟩, fun _ => rfl⟩ HS2 ?r4
        case hy4 => (intro w' hS'; obtain ⟨z0, z1, z2, z3, z4, z5⟩ := hS'; go_simp <;> with_reducible rfl)
        refine wpAnyInH_one (i := 1) (by kernel_rfl) rfl ?_
        intro K hK
        go_simp
        refine ⟨trivial, (fun h => by cases h), ?_⟩
        refine (callsIn_wide.2 (unitfile_of.calls (xs[k]).f0 (xs[k]).f1 (xs[k]).f2 (xs[k]).f3 _ _ _ rfl)).mono ?_
        rintro e w6 ⟨rfl, hb6⟩
        have t6 : Turn (fun _ => False) w2 w6 := (Turn.drew w2).trans (Turn.below hb6 (Nat.le_refl _))
        have HS6 := cells4s (t6.heap hx2 (fun h => h)) (t6.boxed g2 (fun h => h)).cell (t6.boxed g3 (fun h => h)).cell
        refine hK _ _ HS6 ?_
        clear hK K
        refine wpAnyInH_act (a' := ?a5) ?e5 ?r5
        case e5 => (go_simp <;> with_reducible rfl)
        refine wpAnyInH_take (i := 5) (v := ?v6) rfl (by kernel_rfl) (by kernel_rfl) (by kernel_rfl) (by kernel_rfl) (fun _ _ _ h => h) ⟨Or.inl ⟨rfl, ?hy6⟩, fun _ => rfl⟩ HS6 ?r6
        case hy6 => (intro w' hS'; obtain ⟨z0, z1, z2, z3, z4, z5⟩ := hS'; go_simp <;> with_reducible rfl)
        refine wpAnyInH_take (i := 6) (v := ?v7) rfl (by kernel_rfl) (by kernel_rfl) (by kernel_rfl) (by kernel_rfl) (fun _ _ _ h => h) ⟨Or.inl ⟨rfl, ?hy7⟩, fun _ => rfl⟩ HS6 ?r7
        case hy7 => (intro w' hS'; obtain ⟨z0, z1, z2, z3, z4, z5⟩ := hS'; go_simp <;> with_reducible rfl)
        refine wpAnyInH_act (a' := ?a8) ?e8 ?r8
        case e8 => (go_simp <;> with_reducible rfl)
        refine wpAnyInH_take (i := 7) (v := ?v9) rfl (by kernel_rfl) (by kernel_rfl) (by kernel_rfl) (by kernel_rfl) (fun _ _ _ h => h) ⟨Or.inl ⟨rfl, ?hy9⟩, fun _ => rfl⟩ HS6 ?r9
        case hy9 => (intro w' hS'; obtain ⟨z0, z1, z2, z3, z4, z5⟩ := hS'; go_simp <;> with_reducible rfl)
        refine wpAnyInH_take (i := 8) (v := ?v10) rfl (by kernel_rfl) (by kernel_rfl) (by kernel_rfl) (by kernel_rfl) (fun _ _ _ h => h) ⟨Or.inl ⟨rfl, ?hy10⟩, fun _ => rfl⟩ HS6 ?r10
        case hy10 => (intro w' hS'; obtain ⟨z0, z1, z2, z3, z4, z5⟩ := hS'; go_simp <;> with_reducible rfl)
        refine wpAnyInH_act (a' := ?a11) ?e11 ?r11
        case e11 => (go_simp <;> with_reducible rfl)
        refine wpAnyInH_take (i := 9) (v := ?v12) rfl (by kernel_rfl) (by kernel_rfl) (by kernel_rfl) (by kernel_rfl) (fun _ _ _ h => h) ⟨Or.inl ⟨rfl, ?hy12⟩, fun _ => rfl⟩ HS6 ?r12
        case hy12 => (intro w' hS'; obtain ⟨z0, z1, z2, z3, z4, z5⟩ := hS'; go_simp <;> with_reducible rfl)
        refine wpAnyInH_take (i := 10) (v := ?v13) rfl (by kernel_rfl) (by kernel_rfl) (by kernel_rfl) (by kernel_rfl) (fun _ _ _ h => h) ⟨Or.inl ⟨rfl, ?hy13⟩, fun _ => rfl⟩ HS6 ?r13
        case hy13 => (intro w' hS'; obtain ⟨z0, z1, z2, z3, z4, z5⟩ := hS'; go_simp <;> with_reducible rfl)
        refine wpAnyInH_act (a' := ?a14) ?e14 ?r14
        case e14 => (go_simp <;> with_reducible rfl)
        have hJ6 : J pre w6 := hJ pre w2 w6 hJ2 t6
        have hcall := hY pre (k, (xs[k]).f2) w6 hJ6 hrest
        refine wpAnyInH_one (i := 11) (by kernel_rfl) rfl ?_
        intro K hK
        go_simp
        refine ⟨trivial, (fun h => by cases h), ?_⟩
        refine hcall.mono ?_
        rintro e W3 ⟨b, rfl, hk3, hbt, hbf⟩
        have HS7 := cells4s (hk3.row _ _ _ (t6.heap hx2 (fun h => h))) (hk3.box (t6.boxed g2 (fun h => h)) hp2).cell (hk3.box (t6.boxed g3 (fun h => h)) hp3).cell
        refine hK _ _ HS7 ?_
        clear hK K
        refine wpAnyInH_take (i := 12) (v := ?v15) rfl (by kernel_rfl) (by kernel_rfl) (by kernel_rfl) (by kernel_rfl) (fun _ _ _ h => h) ⟨Or.inl ⟨rfl, ?hy15⟩, fun _ => rfl⟩ HS7 ?r15
        case hy15 => (intro w' hS'; obtain ⟨z0, z1, z2, z3, z4, z5⟩ := hS'; go_simp <;> with_reducible rfl)
        refine wpAnyInH_take (i := 13) (v := ?v16) rfl (by kernel_rfl) (by kernel_rfl) (by kernel_rfl) (by kernel_rfl) (fun _ _ _ h => h) ⟨Or.inl ⟨rfl, ?hy16⟩, fun _ => rfl⟩ HS7 ?r16
        case hy16 => (intro w' hS'; obtain ⟨z0, z1, z2, z3, z4, z5⟩ := hS'; go_simp <;> with_reducible rfl)
        refine wpAnyInH_act (a' := ?a17) ?e17 ?r17
        case e17 => (go_simp <;> with_reducible rfl)
        refine wpAnyInH_done (by kernel_rfl) ?_ _
        have hpre2 : (pre ++ [(k, (xs[k]).f2)]) ++ hitsF sec key (k + 1) (xs.drop (k + 1)) = hitsF sec key 0 xs := by rw [← hpre, hitsF_drop hlt, if_pos hh]; simp
        cases b with
        | true =>
          have hJt := hbt rfl
          clear hbt hbf
          gi_wp2
          go_roundw
          case rel => exact ⟨k + 1, pre ++ [(k, (xs[k]).f2)], rfl, hlt, hpre2, hJt, Nat.le_trans hsz (Nat.le_trans ht2.size (Nat.le_trans t6.size hk3.size)), hk3.box (t6.boxed g1 (fun h => h)) hp1, hk3.box (t6.boxed g2 (fun h => h)) hp2, hk3.box (t6.boxed g3 (fun h => h)) hp3, C37_on (C37_turn (C37_turn hCs ht2) t6) (fun ad' e => hk3.on _ (hpA ad' e))⟩
          case measure => exact up_meas hlt
        | false =>
          have hJf := hbf rfl
          clear hbt hbf
          gi_wp2
          refine bodyPost_ret (results_none rfl _ _ _) rfl ?_
          exact ⟨⟨_, rfl⟩, .inr ⟨_, ⟨_, hpre2⟩, hJf⟩⟩
      · rw [Bool.not_eq_true] at hh
        have hq : ((xs[k]).f0.toList == sec.toList && ((xs[k]).f1.toList == key.toList)) = false := by rw [← hh]; exact eq_hit _ _ _
        refine wpIn_region_held (fun w' => w'.cell? ⟨wr.heap.size, 0, none⟩ = some (.string (xs[k]).f0) ∧ w'.cell? ⟨wr.heap.size, 1, none⟩ = some (.string (xs[k]).f1) ∧ w'.cell? ⟨wr.heap.size, 2, none⟩ = some (.string (xs[k]).f2) ∧ w'.cell? ⟨wr.heap.size, 3, none⟩ = some (.int .i64 (xs[k]).f3) ∧ w'.cell? ⟨B2, 0, none⟩ = some (.string sec) ∧ w'.cell? ⟨B3, 0, none⟩ = some (.string key)) hmix ?_
        refine wpAnyInH_take (i := 0) (v := ?v18) rfl (by kernel_rfl) (by kernel_rfl) (by kernel_rfl) (by kernel_rfl) (fun _ _ _ h => h) ⟨Or.inl ⟨rfl, ?hy18⟩, fun _ => rfl⟩ HS2 ?r18
        case hy18 => (intro w' hS'; obtain ⟨z0, z1, z2, z3, z4, z5⟩ := hS'; go_simp <;> with_reducible rfl)
        refine wpAnyInH_take (i := 2) (v := ?v19) rfl (by kernel_rfl) (by kernel_rfl) (by kernel_rfl) (by kernel_rfl) (fun _ _ _ h => h) ⟨Or.inl ⟨rfl, ?hy19⟩, fun _ => rfl⟩ HS2 ?r19
        case hy19 => (intro w' hS'; obtain ⟨z0, z1, z2, z3, z4, z5⟩ := hS'; go_simp <;> with_reducible rfl)
        refine wpAnyInH_take (i := 3) (v := ?v20) rfl (by kernel_rfl) (by kernel_rfl) (by kernel_rfl) (by kernel_rfl) (fun _ _ _ h => h) ⟨Or.inl ⟨rfl, ?hy20⟩, fun _ => rfl⟩ HS2 ?r20
        case hy20 => (intro w' hS'; obtain ⟨z0, z1, z2, z3, z4, z5⟩ := hS'; go_simp <;> with_reducible rfl)
        refine wpAnyInH_take (i := 4) (v := ?v21) rfl (by kernel_rfl) (by kernel_rfl) (by kernel_rfl) (by kernel_rfl) (fun _ _ _ h => h) ⟨Or.inl ⟨rfl, ?hy21⟩, fun _ => rfl⟩ HS2 ?r21
        case hy21 => (intro w' hS'; obtain ⟨z0, z1, z2, z3, z4, z5⟩ := hS'; go_simp <;> with_reducible rfl)
        refine wpAnyInH_one (i := 1) (by kernel_rfl) rfl ?_
        intro K hK
        go_simp
        refine ⟨trivial, (fun h => by cases h), ?_⟩
        refine (callsIn_wide.2 (unitfile_of.calls (xs[k]).f0 (xs[k]).f1 (xs[k]).f2 (xs[k]).f3 _ _ _ rfl)).mono ?_
        rintro e w6 ⟨rfl, hb6⟩
        have t6 : Turn (fun _ => False) w2 w6 := (Turn.drew w2).trans (Turn.below hb6 (Nat.le_refl _))
        have HS6 := cells4s (t6.heap hx2 (fun h => h)) (t6.boxed g2 (fun h => h)).cell (t6.boxed g3 (fun h => h)).cell
        refine hK _ _ HS6 ?_
        clear hK K
        refine wpAnyInH_act (a' := ?a22) ?e22 ?r22
        case e22 => (go_simp <;> with_reducible rfl)
        refine wpAnyInH_take (i := 5) (v := ?v23) rfl (by kernel_rfl) (by kernel_rfl) (by kernel_rfl) (by kernel_rfl) (fun _ _ _ h => h) ⟨Or.inl ⟨rfl, ?hy23⟩, fun _ => rfl⟩ HS6 ?r23
        case hy23 => (intro w' hS'; obtain ⟨z0, z1, z2, z3, z4, z5⟩ := hS'; go_simp <;> with_reducible rfl)
        refine wpAnyInH_take (i := 6) (v := ?v24) rfl (by kernel_rfl) (by kernel_rfl) (by kernel_rfl) (by kernel_rfl) (fun _ _ _ h => h) ⟨Or.inl ⟨rfl, ?hy24⟩, fun _ => rfl⟩ HS6 ?r24
        case hy24 => (intro w' hS'; obtain ⟨z0, z1, z2, z3, z4, z5⟩ := hS'; go_simp <;> with_reducible rfl)
        refine wpAnyInH_act (a' := ?a25) ?e25 ?r25
        case e25 => (go_simp <;> with_reducible rfl)
        refine wpAnyInH_take (i := 7) (v := undef) rfl (by kernel_rfl) (by kernel_rfl) (by kernel_rfl) (by kernel_rfl) (fun _ _ _ h => h) ⟨Or.inr ⟨rfl, rfl⟩, fun _ => rfl⟩ HS6 ?_
        refine wpAnyInH_take (i := 8) (v := undef) rfl (by kernel_rfl) (by kernel_rfl) (by kernel_rfl) (by kernel_rfl) (fun _ _ _ h => h) ⟨Or.inr ⟨rfl, rfl⟩, fun _ => rfl⟩ HS6 ?_
        refine wpAnyInH_take (i := 9) (v := undef) rfl (by kernel_rfl) (by kernel_rfl) (by kernel_rfl) (by kernel_rfl) (fun _ _ _ h => h) ⟨Or.inr ⟨rfl, rfl⟩, fun _ => rfl⟩ HS6 ?_
        refine wpAnyInH_act (a' := ?a29) ?e29 ?r29
        case e29 => (go_simp <;> with_reducible rfl)
        refine wpAnyInH_take (i := 10) (v := undef) rfl (by kernel_rfl) (by kernel_rfl) (by kernel_rfl) (by kernel_rfl) (fun _ _ _ h => h) ⟨Or.inr ⟨rfl, rfl⟩, fun _ => rfl⟩ HS6 ?_
        refine wpAnyInH_take (i := 11) (v := undef) rfl (by kernel_rfl) (by kernel_rfl) (by kernel_rfl) (by kernel_rfl) (fun _ _ _ h => h) ⟨Or.inr ⟨rfl, rfl⟩, fun _ => rfl⟩ HS6 ?_
        refine wpAnyInH_act (a' := ?a32) ?e32 ?r32
        case e32 => (go_simp <;> with_reducible rfl)
        refine wpAnyInH_take (i := 12) (v := undef) rfl (by kernel_rfl) (by kernel_rfl) (by kernel_rfl) (by kernel_rfl) (fun _ _ _ h => h) ⟨Or.inr ⟨rfl, rfl⟩, fun _ => rfl⟩ HS6 ?_
        refine wpAnyInH_act (a' := ?a34) ?e34 ?r34
        case e34 => (go_simp <;> with_reducible rfl)
        refine wpAnyInH_take (i := 13) (v := ?v35) rfl (by kernel_rfl) (by kernel_rfl) (by kernel_rfl) (by kernel_rfl) (fun _ _ _ h => h) ⟨Or.inl ⟨rfl, ?hy35⟩, fun _ => rfl⟩ HS6 ?r35
        case hy35 => (intro w' hS'; obtain ⟨z0, z1, z2, z3, z4, z5⟩ := hS'; go_simp <;> with_reducible rfl)
        refine wpAnyInH_act (a' := ?a36) ?e36 ?r36
        case e36 => (go_simp <;> with_reducible rfl)
        refine wpAnyInH_done (by kernel_rfl) ?_ _
        gi_wp2
        go_roundw
        case rel => exact ⟨k + 1, pre, rfl, hlt, by rw [← hpre, hitsF_drop hlt, if_neg (by rw [hh]; decide)], hJ pre w2 w6 hJ2 t6, Nat.le_trans hsz (Nat.le_trans ht2.size t6.size), t6.boxed g1 (fun h => h), t6.boxed g2 (fun h => h), t6.boxed g3 (fun h => h), C37_turn (C37_turn hCs ht2) t6⟩
        case measure => exact up_meas hlt
    · obtain rfl : k = xs.length := by omega
      have c1 : decide ((xs.length : Int) < (xs.length : Int)) = false := decide_eq_false (by omega)
      rw [List.drop_length, hitsF, List.append_nil] at hpre
      gi_wp2
      go_end0
      exact ⟨⟨_, rfl⟩, .inl ⟨_, rfl, by rw [← hpre]; exact hJs⟩⟩
set_option maxRecDepth 100000 in
set_option maxHeartbeats 8000000 in
theorem sections_c22 (Bn B1 c n : Nat) (hn : 3 ≤ n) (p : Nat → Prop) (A : Option Addr) (xs : List S37)
    (J Jx : List ByteArray → World → Prop) (W : World) (hJ : ∀ s W1 W2, J s W1 → Turn (fun k => W.heap.size ≤ k ∧ ∃ es clock, W1.heap[k]? = some (Obj.map es clock)) W1 W2 → J s W2) (hp1 : p B1) (hpA : ∀ ad, A = some ad → p ad.block) (hAb : ∀ ad, A = some ad → ad.block < W.heap.size)
    (hY : ∀ pre x W1, J pre W1 → (∃ rest, pre ++ x :: rest = xs.foldl sstep []) → CallsIn Fence.wide (n - 1) Tryd.prog 22 #[.string x, .pointer (some ⟨Bn, 0, none⟩)] W1 fun e W' => ∃ b, e = .returned (.bool b) ∧ KeepT p W1 W' ∧ (b = true → J (pre ++ [x]) W') ∧ (b = false → Jx (pre ++ [x]) W'))
    (hB1 : Boxed W B1 25 (.slice A xs.length c)) (hC : Kd.C k37 W A xs.length xs) (hsh : ∀ s ∈ xs, s.f0.size ≤ maxLen) (hlen : xs.length ≤ 1000000) (h0 : J [] W) :
    CallsIn Fence.wide n Tryd.prog 32 #[.func (.func 22) #[] #[.pointer (some ⟨Bn, 0, none⟩)], .pointer (some ⟨B1, 0, none⟩)] W fun e W' => (∃ v, e = .returned v) ∧ ((∃ ys, ys = xs.foldl sstep [] ∧ J ys W') ∨ (∃ pre, pre <+: xs.foldl sstep [] ∧ Jx pre W')) := by
  have hmax : xs.length ≤ 9223372036854775807 := hC.2.1
  have hmm := @run_makeMap Tryd.prog
  have hB1' := hB1.alloc (.map #[] 0)
  have hBc := hB1'.cell
  refine callsIn_of_wp Tryd.func32 rfl trivial ?_ rfl
  simp only [Tryd.ntmps32, List.size_toArray, List.length_cons, List.length_nil, Nat.reduceAdd, Nat.reduceSub, Array.replicate_succ, Array.replicate_zero, List.push_toArray, List.append_toArray, List.nil_append, List.cons_append]
  gi_wp2
  gi_loopw [12] (fun i wr => ∃ (k : Nat) (pre : List ByteArray), i = .int .i64 (k : Int) ∧ k ≤ xs.length ∧ pre = (xs.take k).foldl sstep [] ∧ J pre wr ∧ W.heap.size + 1 ≤ wr.heap.size ∧ Boxed wr B1 25 (.slice A xs.length c) ∧ Kd.C k37 wr A xs.length xs ∧ wr.ownsMap Tryd.prog 9 unitElem W.heap.size k (metD (xs.take k)))
    (fun i _ => xs.length - (intOf i).toNat)
  case atStart => exact ⟨0, [], rfl, Nat.zero_le _, rfl, hJ _ _ _ h0 (Turn.alloc _ _), by simp, hB1', C37_turn hC (Turn.alloc _ _), World.ownsMap_made W Tryd.prog 9 unitElem⟩
  case round =>
    obtain ⟨k, pre, rfl, hk, rfl, hJs, hsz, h1, hCs, hms⟩ := hrel
    by_cases hlt : k < xs.length
    · have hw1 : wrap64 ((k : Int) + 1) = ((k + 1 : Nat) : Int) := by unfold wrap64; omega
      have hAb2 := hAb
      obtain ⟨ad, eA, q0, q1, q2, q3⟩ := at_T37 hCs (k : Int) (by omega) (by omega)
      have hAlt0 := hAb2 ad eA
      subst eA
      simp only [Int.toNat_natCast] at q0 q1 q2 q3
      have hrd : rd_T37 xs (k : Int) = xs[k] := rdm37 hlt
      rw [hrd] at q0 q1 q2 q3
      have d1 : decide ((k : Int) < (xs.length : Int)) = true := decide_eq_true (by omega)
      have d2 : (0 ≤ (k : Int)) = True := eq_true (by omega)
      have d3 : ((k : Int) < (xs.length : Int)) = True := eq_true (by omega)
      have d4 : (k < xs.length) = True := eq_true hlt
      obtain ⟨w2, hw2⟩ : ∃ w2, wr.alloc (.cells #[.string (xs[k]).f0, .string (xs[k]).f1, .string (xs[k]).f2, .int .i64 (xs[k]).f3] 37) = w2 := ⟨_, rfl⟩
      have ht2 : Turn (fun _ => False) wr w2 := by rw [← hw2]; exact Turn.alloc _ _
      have hJ2 : J ((xs.take k).foldl sstep []) w2 := by rw [← hw2]; exact hJ _ _ _ hJs (Turn.alloc _ _)
      have hx2 : w2.heap[wr.heap.size]? = some (.cells #[.string (xs[k]).f0, .string (xs[k]).f1, .string (xs[k]).f2, .int .i64 (xs[k]).f3] 37 (0, 0)) := by rw [← hw2]; exact World.alloc_heap_new wr _
      have x2c := (cells4_of hx2).1
      have hm2 := ht2.map hms (fun h => h)
      obtain ⟨w3, hw3⟩ : ∃ w3, w2.alloc (.cells #[] 67) = w3 := ⟨_, rfl⟩
      have ht3 : Turn (fun _ => False) w2 w3 := by rw [← hw3]; exact Turn.alloc _ _
      have hJ3 : J ((xs.take k).foldl sstep []) w3 := by rw [← hw3]; exact hJ _ _ _ hJ2 (Turn.alloc _ _)
      have x3 := ht3.heap hx2 (fun h => h)
      have x3c := (cells4_of x3).1
      have hm3 := ht3.map hm2 (fun h => h)
      have g3 := ht3.boxed (ht2.boxed h1 (fun h => h)) (fun h => h)
      have C3 := C37_turn (C37_turn hCs ht2) ht3
      obtain ⟨es0, cl0, hmb3, _⟩ := id hm3
      have hsz3 : W.heap.size ≤ w3.heap.size := Nat.le_trans (Nat.le_of_succ_le hsz) (Nat.le_trans ht2.size ht3.size)
      have hsz3p : W.heap.size + 1 ≤ w3.heap.size := Nat.le_trans hsz (Nat.le_trans ht2.size ht3.size)
      have hB1lt : B1 < W.heap.size := hB1.lt
      have hAlt : ∀ ad', some ad = some ad' → ad'.block < w3.heap.size := fun ad' e => by cases e; omega
      have hAne : ∀ ad', some ad = some ad' → ¬ (ad'.block = W.heap.size) := fun ad' e => by cases e; omega
      have hkey := keyS (hsh _ (List.getElem_mem hlt))
      have hkm : k < maxLen := Nat.lt_of_lt_of_le hlt (Nat.le_trans hlen (by decide))
      have hpre2 := fold_pre xs (k + 1)
      rw [take_fold hlt] at hpre2
      obtain ⟨b0, hb0⟩ : ∃ b0, ((xs.take k).foldl sstep []).any (fun x => x.toList == (xs[k]).f0.toList) = b0 := ⟨_, rfl⟩
      have hhas : Maps.has (metD (xs.take k)) (klS (xs[k]).f0) = b0 := by rw [metD_has]; exact hb0
      have hst := take_fold hlt
      cases b0 with
      | false =>
        rw [sstep, if_neg (by rw [hb0]; decide)] at hst hpre2
        have hrest : ∃ rest, (xs.take k).foldl sstep [] ++ (xs[k]).f0 :: rest = xs.foldl sstep [] := by
          obtain ⟨r, hr⟩ := hpre2
          exact ⟨r, by rw [← hr]; simp⟩
        gi_wp2_with (first | (gi_at_lookup; refine wpListIn_lookup_own_unit _ rfl _ _ 81 rfl 9 67 keyed9 Tryd.underlying81 (zero67 _) W.heap.size k (metD (xs.take k)) rfl hm2 _ _ rfl hkey ?_; rw [hhas]) | (gi_at_mapUpdate; refine wpListIn_mapUpdate_own _ rfl _ _ _ 81 rfl 9 67 keyed9 Tryd.underlying81 _ W.heap.size k _ rfl hm3 hkm _ _ _ rfl rfl hkey _ [] unitElem_mk ?_; intro w4 hm4 hg4; have hJ4 : J ((xs.take k).foldl sstep []) w4 := hJ _ _ _ hJ3 (Turn.grown hg4 (fun k e => by cases e; exact ⟨Nat.le_refl _, _, _, hmb3⟩)); have t4 : Turn (fun k => k = W.heap.size) w3 w4 := Turn.grown hg4 (fun k e => (Option.some.inj e).symm); have x4 := t4.heap x3 (by omega); have x4c := (cells4_of x4).1; have g4 := t4.boxed g3 (by omega); have C4 := C37_on C3 (fun ad' e => t4.block _ (hAlt ad' e) (hAne ad' e)); have hsz4 : W.heap.size + 1 ≤ w4.heap.size := Nat.le_trans hsz3p t4.size; have hcall := hY _ (xs[k]).f0 w4 hJ4 hrest))
        refine ⟨trivial, (fun h => by cases h), ?_⟩
        refine hcall.mono ?_
        rintro e W5 ⟨b, rfl, hk5, hbt, hbf⟩
        cases b with
        | true =>
          have hJt := hbt rfl
          clear hbt hbf
          gi_wp2
          go_roundw
          case rel => exact ⟨k + 1, _, rfl, hlt, hst.symm, hJt, Nat.le_trans hsz4 hk5.size, hk5.box g4 hp1, C37_on C4 (fun ad' e => hk5.on _ (hpA ad' e)), by rw [take_snoc hlt, metD_snoc]; exact hk5.map hm4⟩
          case measure => exact up_meas hlt
        | false =>
          have hJf := hbf rfl
          clear hbt hbf
          gi_wp2
          refine bodyPost_ret (results_none rfl _ _ _) rfl ?_
          exact ⟨⟨_, rfl⟩, .inr ⟨_, hpre2, hJf⟩⟩
      | true =>
        rw [sstep, if_pos hb0] at hst
        gi_wp2_with (first | (gi_at_lookup; refine wpListIn_lookup_own_unit _ rfl _ _ 81 rfl 9 67 keyed9 Tryd.underlying81 (zero67 _) W.heap.size k (metD (xs.take k)) rfl hm2 _ _ rfl hkey ?_; rw [hhas]) | (gi_at_mapUpdate; refine wpListIn_mapUpdate_own _ rfl _ _ _ 81 rfl 9 67 keyed9 Tryd.underlying81 _ W.heap.size k _ rfl hm3 hkm _ _ _ rfl rfl hkey _ [] unitElem_mk ?_; intro w4 hm4 hg4; have hJ4 : J ((xs.take k).foldl sstep []) w4 := hJ _ _ _ hJ3 (Turn.grown hg4 (fun k e => by cases e; exact ⟨Nat.le_refl _, _, _, hmb3⟩)); have t4 : Turn (fun k => k = W.heap.size) w3 w4 := Turn.grown hg4 (fun k e => (Option.some.inj e).symm); have x4 := t4.heap x3 (by omega); have x4c := (cells4_of x4).1; have g4 := t4.boxed g3 (by omega); have C4 := C37_on C3 (fun ad' e => t4.block _ (hAlt ad' e) (hAne ad' e)); have hsz4 : W.heap.size + 1 ≤ w4.heap.size := Nat.le_trans hsz3p t4.size))
        refine ⟨(fun _ h => (by cases h)), ?_⟩
        gi_wp2
        go_roundw
        case rel => exact ⟨k + 1, _, rfl, hlt, hst.symm, hJ4, hsz4, g4, C4, by rw [take_snoc hlt, metD_snoc]; exact hm4⟩
        case measure => exact up_meas hlt
    · obtain rfl : k = xs.length := by omega
      have c1 : decide ((xs.length : Int) < (xs.length : Int)) = false := decide_eq_false (by omega)
      rw [List.take_length] at hJs
      gi_wp2
      go_end0
      exact ⟨⟨_, rfl⟩, .inl ⟨_, rfl, hJs⟩⟩
end Go.Proofs.YtbigbjfppaenfaaDoor.Lines
